/- Texts joined by program: Mem Mem2 Mem3 LabA LabR Mem4 Mem6 LabB Txt RefA Shelf5 Mem7 Mem9 Mem10 Mem11 Mem12 WirL ShaI WirA WirB. -/
import Derived.WalkKit
import Derived.WalkLawsBesides
import Derived.WalkSpells
import Derived.Deep.QuietTactic
import Derived.BigQuiet
import Derived.Deep.MidRow
import Derived.Deep.RegionHeld
import Derived.Lib.Bytealg
import Derived.ChangeKeysEq
import Derived.Test.YtijkmbebfodhdaaChecked
import Derived.MapKept
import Derived.Laws.StructEq
import Derived.Shelf.Strconv.Itoa0
import Derived.Test.YtijkmbebfodhdaaProg
import Derived.Lib.AppendStr
import Derived.Lib.ItoaNum
/- (Mem)
  A small symbolic heap for the walks of this claim: 'Mem w0 own L w' says what the world w is like when a call that began in w0 has run for a while. No condition on any program.
-/
namespace Go.Proofs.Ytijkmbebfodhdaa
open Go.RowKit
set_option linter.unusedSimpArgs false
set_option linter.unusedVariables false

/-- The world w, reached from w0: below w0's size only the blocks of 'own' may have turned; the blocks of L hold just what L says. -/
structure Mem (w0 : World) (own : List Nat) (L : List (Nat × Obj)) (w : World) : Prop where
  os : w.os = w0.os
  tape : w.tape = w0.tape
  output : w.output = w0.output
  size : w0.heap.size ≤ w.heap.size
  old : ∀ k, k < w0.heap.size → k ∉ own → w.heap[k]? = w0.heap[k]?
  has : ∀ p, p ∈ L → w.heap[p.1]? = some p.2
  may : ∀ p, p ∈ L → w0.heap.size ≤ p.1 ∨ p.1 ∈ own
  apart : ∀ (i j : Nat) (p q : Nat × Obj), L[i]? = some p → L[j]? = some q → p.1 = q.1 → i = j

/-- Nothing that was there has turned. -/
def Ext (w w' : World) : Prop := Mem w [] [] w'

section
variable {w0 w w' : World} {own : List Nat} {L : List (Nat × Obj)}

theorem Mem.refl (w : World) (own : List Nat) : Mem w own [] w :=
  ⟨rfl, rfl, rfl, Nat.le_refl _, fun _ _ _ => rfl, fun _ h => (List.not_mem_nil h).elim, fun _ h => (List.not_mem_nil h).elim, fun i _ _ _ h => by simp at h⟩
theorem Ext.refl (w : World) : Ext w w := Mem.refl w []

theorem Mem.lt (h : Mem w0 own L w) {p : Nat × Obj} (hp : p ∈ L) : p.1 < w.heap.size := (Array.getElem?_eq_some_iff.1 (h.has p hp)).1

theorem Mem.drawn (h : Mem w0 own L w) (n : Nat) : Mem w0 own L { w with drawn := n } :=
  ⟨h.os, h.tape, h.output, h.size, h.old, h.has, h.may, h.apart⟩
theorem Mem.drew (h : Mem w0 own L w) : Mem w0 own L w.drew := h.drawn _

theorem Mem.alloc (h : Mem w0 own L w) (o : Obj) : Mem w0 own ((w.heap.size, o) :: L) (w.alloc o) := by
  refine ⟨h.os, h.tape, h.output, Nat.le_trans h.size (by simp), fun k hk hn => ?_, fun p hp => ?_, fun p hp => ?_, fun i j p q hi hj e => ?_⟩
  · rw [Below.heap_alloc w o k (Nat.lt_of_lt_of_le hk h.size)]; exact h.old k hk hn
  · rcases List.mem_cons.1 hp with rfl | hp
    · exact heap_alloc_new w o
    · rw [Below.heap_alloc w o p.1 (h.lt hp)]; exact h.has p hp
  · rcases List.mem_cons.1 hp with rfl | hp
    · exact Or.inl h.size
    · exact h.may p hp
  · cases i with
    | zero =>
      cases j with
      | zero => rfl
      | succ j =>
        simp only [List.getElem?_cons_zero, List.getElem?_cons_succ, Option.some.injEq] at hi hj
        have := h.lt (List.mem_of_getElem? hj)
        rw [← e, ← hi] at this
        exact (Nat.lt_irrefl _ this).elim
    | succ i =>
      cases j with
      | zero =>
        simp only [List.getElem?_cons_zero, List.getElem?_cons_succ, Option.some.injEq] at hi hj
        have := h.lt (List.mem_of_getElem? hi)
        rw [e, ← hj] at this
        exact (Nat.lt_irrefl _ this).elim
      | succ j =>
        simp only [List.getElem?_cons_succ] at hi hj
        rw [h.apart i j p q hi hj e]

/-- Block b, which L lists at place i, holds another object now; nothing else has turned. -/
theorem Mem.setObj (h : Mem w0 own L w) {i b : Nat} {o o' : Obj} (hL : L[i]? = some (b, o)) (e1 : w'.os = w.os) (e2 : w'.tape = w.tape) (e3 : w'.output = w.output)
    (e4 : w.heap.size ≤ w'.heap.size) (e5 : ∀ k, k < w.heap.size → k ≠ b → w'.heap[k]? = w.heap[k]?) (e6 : w'.heap[b]? = some o') : Mem w0 own (L.set i (b, o')) w' := by
  have hi : i < L.length := (List.getElem?_eq_some_iff.1 hL).1
  have hmem : (b, o) ∈ L := List.mem_of_getElem? hL
  have hmay : w0.heap.size ≤ b ∨ b ∈ own := h.may _ hmem
  have key : ∀ j p, (L.set i (b, o'))[j]? = some p → (j = i ∧ p = (b, o')) ∨ (j ≠ i ∧ L[j]? = some p) := fun j p hj => by
    rw [List.getElem?_set] at hj
    split at hj
    · rename_i hij
      simp only [hi, if_true, Option.some.injEq] at hj
      exact Or.inl ⟨hij.symm, hj.symm⟩
    · rename_i hij
      exact Or.inr ⟨fun e => hij e.symm, hj⟩
  have far : ∀ j p, j ≠ i → L[j]? = some p → p.1 ≠ b := fun j p hji hj e => hji (h.apart j i p (b, o) hj hL e)
  refine ⟨e1.trans h.os, e2.trans h.tape, e3.trans h.output, Nat.le_trans h.size e4, fun k hk hn => ?_, fun p hp => ?_, fun p hp => ?_, fun j k p q hj hk e => ?_⟩
  · have hkb : k ≠ b := fun e => by
      rcases hmay with hm | hm
      · omega
      · exact hn (by rw [e]; exact hm)
    rw [e5 k (Nat.lt_of_lt_of_le hk h.size) hkb]
    exact h.old k hk hn
  · obtain ⟨j, hj⟩ := List.mem_iff_getElem?.1 hp
    rcases key j p hj with ⟨_, rfl⟩ | ⟨hji, hj⟩
    · exact e6
    · have hpL := List.mem_of_getElem? hj
      rw [e5 p.1 (h.lt hpL) (far j p hji hj)]
      exact h.has p hpL
  · obtain ⟨j, hj⟩ := List.mem_iff_getElem?.1 hp
    rcases key j p hj with ⟨_, rfl⟩ | ⟨hji, hj⟩
    · exact hmay
    · exact h.may p (List.mem_of_getElem? hj)
  · rcases key j p hj with ⟨hji, rfl⟩ | ⟨hji, hj⟩
    · rcases key k q hk with ⟨hki, rfl⟩ | ⟨hki, hk⟩
      · rw [hji, hki]
      · exact (far k q hki hk e.symm).elim
    · rcases key k q hk with ⟨hki, rfl⟩ | ⟨hki, hk⟩
      · exact (far j p hji hj e).elim
      · exact h.apart j k p q hj hk e

theorem Mem.setRow (h : Mem w0 own L w) {i b : Nat} {cs : Array Value} {T : TypeId} {fr : Nat × Nat} (hL : L[i]? = some (b, .cells cs T fr)) (cs' : Array Value) :
    Mem w0 own (L.set i (b, .cells cs' T fr)) (w.setRow b cs') :=
  h.setObj hL rfl rfl rfl (by simp) (fun k _ hk => setRow_other w b k cs' hk) (setRow_heap w b cs cs' T fr (h.has _ (List.mem_of_getElem? hL)))

theorem Mem.setCell (h : Mem w0 own L w) {i b : Nat} {cs : Array Value} {T : TypeId} {fr : Nat × Nat} (hL : L[i]? = some (b, .cells cs T fr)) (off : Nat) (v : Value) :
    Mem w0 own (L.set i (b, .cells (cs.setIfInBounds off v) T fr)) (w.setCell ⟨b, off, none⟩ v) := by
  rw [setCell_eq_setRow w b off cs T fr v (h.has _ (List.mem_of_getElem? hL))]
  exact h.setRow hL _

/-- Behind a callee that has turned nothing that was there. -/
theorem Mem.call (h : Mem w0 own L w) (hx : Ext w w') : Mem w0 own L w' :=
  ⟨hx.os.trans h.os, hx.tape.trans h.tape, hx.output.trans h.output, Nat.le_trans h.size hx.size,
   fun k hk hn => (hx.old k (Nat.lt_of_lt_of_le hk h.size) (by simp)).trans (h.old k hk hn),
   fun p hp => (hx.old p.1 (h.lt hp) (by simp)).trans (h.has p hp), h.may, h.apart⟩

/-- Behind a callee that has turned block b alone. -/
theorem Mem.callOn (h : Mem w0 own L w) {i b : Nat} {o o' : Obj} (hL : L[i]? = some (b, o)) {M : List (Nat × Obj)} (hx : Mem w [b] ((b, o') :: M) w') : Mem w0 own (L.set i (b, o')) w' :=
  h.setObj hL hx.os hx.tape hx.output hx.size (fun k hk hn => hx.old k hk (by simpa using hn)) (hx.has _ (List.mem_cons_self ..))

theorem Mem.tail {p : Nat × Obj} (h : Mem w0 own (p :: L) w) : Mem w0 own L w :=
  ⟨h.os, h.tape, h.output, h.size, h.old, fun q hq => h.has q (List.mem_cons_of_mem _ hq), fun q hq => h.may q (List.mem_cons_of_mem _ hq), fun i j q r hi hj e => by
    have := h.apart (i + 1) (j + 1) q r (by simpa using hi) (by simpa using hj) e
    omega⟩

theorem Mem.erase (h : Mem w0 own L w) (i : Nat) : Mem w0 own (L.eraseIdx i) w := by
  refine ⟨h.os, h.tape, h.output, h.size, h.old, fun q hq => h.has q (List.mem_of_mem_eraseIdx hq), fun q hq => h.may q (List.mem_of_mem_eraseIdx hq), fun j k p q hj hk e => ?_⟩
  rw [List.getElem?_eraseIdx] at hj hk
  split at hj <;> split at hk
  · exact h.apart j k p q hj hk e
  · have := h.apart j (k + 1) p q hj hk e; omega
  · have := h.apart (j + 1) k p q hj hk e; omega
  · have := h.apart (j + 1) (k + 1) p q hj hk e; omega

theorem Mem.nil (h : Mem w0 own L w) : Mem w0 own [] w :=
  ⟨h.os, h.tape, h.output, h.size, h.old, fun _ hq => (List.not_mem_nil hq).elim, fun _ hq => (List.not_mem_nil hq).elim, fun i _ _ _ hi => by simp at hi⟩

theorem Mem.ext (h : Mem w0 [] L w) : Ext w0 w := h.nil

theorem Ext.trans {a b c : World} (h : Ext a b) (k : Ext b c) : Ext a c := Mem.call h k

theorem Ext.below (h : Ext w w') : Below w.heap.size w w' := ⟨h.os, h.tape, h.output, h.size, fun k hk => h.old k hk (by simp)⟩

theorem Mem.heap (h : Mem w0 own L w) {i b : Nat} {o : Obj} (hL : L[i]? = some (b, o)) : w.heap[b]? = some o := h.has _ (List.mem_of_getElem? hL)

theorem Mem.cell (h : Mem w0 own L w) {i b : Nat} {cs : Array Value} {T : TypeId} {fr : Nat × Nat} (hL : L[i]? = some (b, .cells cs T fr)) (j : Nat) : w.cell? ⟨b, j, none⟩ = cs[j]? :=
  cell_of_row w b j cs T fr (h.heap hL)

theorem Mem.free (h : Mem w0 own L w) {i b : Nat} {cs : Array Value} {T : TypeId} (hL : L[i]? = some (b, .cells cs T (0, 0))) (j : Nat) : w.frozen? ⟨b, j, none⟩ = false :=
  frozen_of_row w b j cs T (h.heap hL)
end

theorem hid {p : Prop} (h : p) : Hid p := h
/-- The walk is held here. -/
def Stop (p : Prop) : Prop := p
theorem Stop.mk {p : Prop} (h : Stop p) : p := h
theorem Stop.go {p : Prop} (h : p) : Stop p := h

/-! ### A plain region's operations -/
section
variable {P : Program} {ops : Array Oper} {Q : Exit → Act → World → Prop} {rest : List Oper} {a : Act} {w0 w : World} {own : List Nat} {L : List (Nat × Obj)}
  {dst : Option Tmp} {ty : TypeId} {pos : String} {aft : Array Edge} {gd : Option (Nat × Bool)}

theorem zero_run {T : TypeId} {z : Value} (hz : (P.info? T).bind (·.zero) = some z) (w : World) : (zeroValue T).run P w = .ok z w := by
  cases hi : P.info? T with
  | none => simp [hi] at hz
  | some i =>
    have : i.zero = some z := by simpa [hi] using hz
    simp [zeroValue, typeInfo, hi, this]

theorem wl_op {o : Oper} (hw : Region.wanted o (yielded ops a.tmps) = true) (h : ∀ K : Act → World → Prop, (∀ a w, wpList P ops Q rest a w → K a w) → o.wp P a w K Q) : wpList P ops Q (o :: rest) a w := by
  unfold wpList
  rw [if_pos hw]
  exact .inl (h _ fun _ _ h => h)

theorem wl_alloc {T : TypeId} {z : Value} {cs : Array Value} (hw : Region.wanted ⟨dst, .alloc T, ty, pos, aft, gd⟩ (yielded ops a.tmps) = true) (hz : (P.info? T).bind (·.zero) = some z) (hc : z.cells = cs) (hm : Mem w0 own L w)
    (h : ∀ b w', Mem w0 own ((b, .cells cs T) :: L) w' → wpList P ops Q rest (a.put dst (.pointer (some ⟨b, 0, none⟩))) w') :
    wpList P ops Q (⟨dst, .alloc T, ty, pos, aft, gd⟩ :: rest) a w :=
  wl_op hw fun K hK => by
    unfold Oper.wp execOp
    simp only [Instr.alloc, Sem.run_bind, zero_run hz, Result.andThen_ok, newVar, newRow, hc, run_newObj_alloc, Sem.run_pure, Oper.upon]
    exact hK _ _ (h _ _ (hm.alloc _))

theorem wl_box {T : TypeId} {x : Operand} {v : Value} {cs : Array Value} (hw : Region.wanted ⟨dst, .box T x, ty, pos, aft, gd⟩ (yielded ops a.tmps) = true) (hx : a.eval x = v) (hc : v.cells = cs) (hm : Mem w0 own L w)
    (h : ∀ b w', Mem w0 own ((b, .cells cs T) :: L) w' → wpList P ops Q rest (a.put dst (.pointer (some ⟨b, 0, none⟩))) w') :
    wpList P ops Q (⟨dst, .box T x, ty, pos, aft, gd⟩ :: rest) a w :=
  wl_op hw fun K hK => by
    unfold Oper.wp execOp
    simp only [Instr.box, hx, hc, Sem.run_bind, Result.andThen_ok, newVar, newRow, run_newObj_alloc, Sem.run_pure, Oper.upon]
    exact hK _ _ (h _ _ (hm.alloc _))

theorem wl_load {T U : TypeId} {x : Operand} {b i : Nat} {cs : Array Value} {fr : Nat × Nat} {d : TypeDesc} (hw : Region.wanted ⟨dst, .load T x, ty, pos, aft, gd⟩ (yielded ops a.tmps) = true) (hm : Mem w0 own L w) (hL : L[i]? = some (b, .cells cs U fr)) (hx : a.eval x = .pointer (some ⟨b, 0, none⟩))
    (hu : P.underlying T = some d) (hd : (match d with | .struct _ | .array _ _ => true | _ => false) = true) (hi : (P.info? T).map (·.size) = some cs.size)
    (h : wpList P ops Q rest (a.put dst (.agg cs)) w) : wpList P ops Q (⟨dst, .load T x, ty, pos, aft, gd⟩ :: rest) a w :=
  wl_op hw fun K hK => wp_load_row T x rfl b hx U cs fr d (hm.heap hL) hu hd hi (hK _ _ h)

theorem wl_store {T U : TypeId} {x y : Operand} {v : Value} {b i : Nat} {cs cs' : Array Value} (hw : Region.wanted ⟨dst, .store T x y, ty, pos, aft, gd⟩ (yielded ops a.tmps) = true) (hm : Mem w0 own L w) (hL : L[i]? = some (b, .cells cs U (0, 0))) (hx : a.eval x = .pointer (some ⟨b, 0, none⟩)) (hy : a.eval y = v) (hv : v = .agg cs')
    (hi : (P.info? T).map (·.size) = some cs'.size) (hs : cs.size = cs'.size) (h1 : cs'.all (·.oneCell') = true)
    (h : ∀ w', Mem w0 own (L.set i (b, .cells cs' U (0, 0))) w' → wpList P ops Q rest (a.put dst undef) w') : wpList P ops Q (⟨dst, .store T x y, ty, pos, aft, gd⟩ :: rest) a w :=
  wl_op hw fun K hK => wp_store_row T x y rfl b cs' hx (hy.trans hv) U cs (hm.heap hL) hi hs h1 (hK _ _ (h _ (hm.setRow hL _)))

theorem storeVar_cell {T U : TypeId} {b i off : Nat} {cs : Array Value} {v : Value} (hm : Mem w0 own L w) (hL : L[i]? = some (b, .cells cs U (0, 0))) (ho : off < cs.size) (h1 : v.oneCell' = true)
    (hi : (P.info? T).map (·.size) = some 1) : (storeVar T ⟨b, off, none⟩ v).run P w = .ok () (w.setCell ⟨b, off, none⟩ v) := by
  have hc : v.cells = #[v] := by cases v <;> simp_all [Value.cells, Value.oneCell']
  have hcell : w.cell? ⟨b, off, none⟩ = some cs[off] := by rw [hm.cell hL, Array.getElem?_eq_getElem ho]
  cases hq : P.info? T with
  | none => simp [hq] at hi
  | some it =>
    have hs : it.size = 1 := by simpa [hq] using hi
    simp [storeVar, sizeOf, typeInfo, hc, hq, hs, storeCells, run_store P w _ v _ h1, hcell, hm.free hL, Addr.add]

theorem wl_storeCell {T U : TypeId} {x y : Operand} {b i off : Nat} {cs : Array Value} {v : Value} (hw : Region.wanted ⟨dst, .store T x y, ty, pos, aft, gd⟩ (yielded ops a.tmps) = true) (hm : Mem w0 own L w) (hL : L[i]? = some (b, .cells cs U (0, 0))) (hx : a.eval x = .pointer (some ⟨b, off, none⟩)) (hy : a.eval y = v)
    (h1 : v.oneCell' = true) (hi : (P.info? T).map (·.size) = some 1) (ho : off < cs.size)
    (h : ∀ w', Mem w0 own (L.set i (b, .cells (cs.setIfInBounds off v) U (0, 0))) w' → wpList P ops Q rest (a.put dst undef) w') : wpList P ops Q (⟨dst, .store T x y, ty, pos, aft, gd⟩ :: rest) a w :=
  wl_op hw fun K hK => by
    unfold Oper.wp execOp
    simp only [hx, hy, Instr.storeAt, Instr.sureAddr, Sem.run_bind, Sem.run_pure, Result.andThen_ok, storeVar_cell hm hL ho h1 hi, Oper.upon]
    exact hK _ _ (h _ (hm.setCell hL _ _))

theorem loadVar_cell {T U : TypeId} {b i off : Nat} {cs : Array Value} {v : Value} {fr : Nat × Nat} {d : TypeDesc} (hm : Mem w0 own L w) (hL : L[i]? = some (b, .cells cs U fr)) (hv : cs[off]? = some v)
    (hu : P.underlying T = some d) (hd : (match d with | .struct _ | .array _ _ => true | _ => false) = false) : (loadVar T ⟨b, off, none⟩).run P w = .ok v w := by
  have hagg : (isAgg T).run P w = .ok false w := by
    unfold isAgg
    rw [Sem.run_bind, run_underlying hu w]
    cases d <;> simp_all
  have hcell : w.cell? ⟨b, off, none⟩ = some v := by rw [hm.cell hL, hv]
  simp [loadVar, Sem.run_bind, hagg, hcell]

theorem wl_loadCell {T U : TypeId} {x : Operand} {b i off : Nat} {cs : Array Value} {v : Value} {fr : Nat × Nat} {d : TypeDesc} (hw : Region.wanted ⟨dst, .load T x, ty, pos, aft, gd⟩ (yielded ops a.tmps) = true) (hm : Mem w0 own L w) (hL : L[i]? = some (b, .cells cs U fr)) (hx : a.eval x = .pointer (some ⟨b, off, none⟩))
    (hv : cs[off]? = some v) (hu : P.underlying T = some d) (hd : (match d with | .struct _ | .array _ _ => true | _ => false) = false)
    (h : wpList P ops Q rest (a.put dst v) w) : wpList P ops Q (⟨dst, .load T x, ty, pos, aft, gd⟩ :: rest) a w :=
  wl_op hw fun K hK => by
    unfold Oper.wp execOp
    simp only [hx, Instr.loadAt, Instr.sureAddr, Sem.run_bind, Sem.run_pure, Result.andThen_ok, loadVar_cell hm hL hv hu hd, Oper.upon]
    exact hK _ _ h
end

section
variable {P : Program} {ops : Array Oper} {Q : Exit → Act → World → Prop} {rest : List Oper} {a : Act} {w0 w : World} {own : List Nat} {L : List (Nat × Obj)}
  {dst : Option Tmp} {ty : TypeId} {pos : String} {aft : Array Edge} {gd : Option (Nat × Bool)} {K : Act → World → Prop}

theorem wl_build {T : TypeId} {parts : Array (Nat × Operand)} {ps : List (Nat × Value)} {cells : Array Value} (hw : Region.wanted ⟨dst, .build T parts, ty, pos, aft, gd⟩ (yielded ops a.tmps) = true) (hb : P.built T ps = some cells) (hp : (parts.map fun (i, x) => (i, a.eval x)).toList = ps)
    (h : wpList P ops Q rest (a.put dst (.agg cells)) w) : wpList P ops Q (⟨dst, .build T parts, ty, pos, aft, gd⟩ :: rest) a w :=
  wl_op hw fun K hK => by
    unfold Oper.wp execOp
    simp only [Sem.run_bind, run_build w T _ cells (hp ▸ hb), Result.andThen_ok, Sem.run_pure, Oper.upon]
    exact hK _ _ h

/-! One operation, wherever it stands. -/
theorem ow_store {T U : TypeId} {x y : Operand} {v : Value} {b i : Nat} {cs cs' : Array Value} (hm : Mem w0 own L w) (hL : L[i]? = some (b, .cells cs U (0, 0))) (hx : a.eval x = .pointer (some ⟨b, 0, none⟩)) (hy : a.eval y = v) (hv : v = .agg cs')
    (hi : (P.info? T).map (·.size) = some cs'.size) (hs : cs.size = cs'.size) (h1 : cs'.all (·.oneCell') = true)
    (h : ∀ w', Mem w0 own (L.set i (b, .cells cs' U (0, 0))) w' → K (a.put dst undef) w') : Oper.wp P ⟨dst, .store T x y, ty, pos, aft, gd⟩ a w K Q :=
  wp_store_row T x y rfl b cs' hx (hy.trans hv) U cs (hm.heap hL) hi hs h1 (h _ (hm.setRow hL _))

theorem ow_storeCell {T U : TypeId} {x y : Operand} {b i off : Nat} {cs : Array Value} {v : Value} (hm : Mem w0 own L w) (hL : L[i]? = some (b, .cells cs U (0, 0))) (hx : a.eval x = .pointer (some ⟨b, off, none⟩)) (hy : a.eval y = v)
    (h1 : v.oneCell' = true) (hi : (P.info? T).map (·.size) = some 1) (ho : off < cs.size)
    (h : ∀ w', Mem w0 own (L.set i (b, .cells (cs.setIfInBounds off v) U (0, 0))) w' → K (a.put dst undef) w') : Oper.wp P ⟨dst, .store T x y, ty, pos, aft, gd⟩ a w K Q := by
  unfold Oper.wp execOp
  simp only [hx, hy, Instr.storeAt, Instr.sureAddr, Sem.run_bind, Sem.run_pure, Result.andThen_ok, storeVar_cell hm hL ho h1 hi, Oper.upon]
  exact h _ (hm.setCell hL _ _)

theorem ow_call {f : FuncId} {fn : Func} {args : Array Operand} {ats : Array TypeId} {vs : Array Value} (hf : P.funcs[f]? = some fn) (hn : (fn.name == "runtime.NumGoroutine") = false) (hb : fn.body.isNone = false) (hv : args.map a.eval = vs)
    (h : Calls P f vs w fun
      | .returned v, w'' => K (a.put dst v) w''
      | .panicked chain, w'' => Q (.panic chain) a w''
      | .outgrown, _ => LetsOut Q) : Oper.wp P ⟨dst, .call ⟨.value (.func f), args, ats⟩, ty, pos, aft, gd⟩ a w K Q := by
  have h1 : fn.name ≠ "runtime.NumGoroutine" := by simpa using hn
  have h2 : (execOp a.eval ⟨dst, .call ⟨.value (.func f), args, ats⟩, ty, pos, aft, gd⟩).run P w = .ok (.enter f vs) w := by
    have h3 : fn.body ≠ none := fun h => by simp [h] at hb
    simp [execOp, resolve, Act.eval, Deferred.ofValue, invoke, callFunc, hf, h1, h3, ← hv]
  unfold Oper.wp
  rw [h2]
  exact h

/-! A region that draws its order: what may be taken first in all worlds that S tells; the rest as it comes. -/
variable {S : World → Prop} {md : Region.Mode} {fuel : Nat} {listed : Array Bool} {i : Nat} {oi : Oper}
theorem wh_any (hi : ops[i]? = some oi) (hs : Region.noSelect ops = true) (hf : Region.free md ops listed i = true) (hr : (Region.ready md ops listed).contains i = true)
    (hQ : ∀ c v (a : Act) w, Q (.panic c) (a.put oi.dst v) w → Q (.panic c) a w) (hw : Region.wanted oi (yielded ops a.tmps) = true) (hS : S w)
    (h : ∃ v, (∀ w, S w → (execOp a.eval oi).run P w = .ok (.value v) w) ∧ wpAnyH P md ops Q S fuel (listed.setIfInBounds i true) (a.put oi.dst v) w) : wpAnyH P md ops Q S (fuel + 1) listed a w :=
  let ⟨_, h1, h2⟩ := h
  wpAnyH_take hi hs hf hr (fun _ _ _ h => hQ _ _ _ _ h) (Or.inl ⟨hw, h1⟩) hS h2

theorem wh_skip (hi : ops[i]? = some oi) (hs : Region.noSelect ops = true) (hf : Region.free md ops listed i = true) (hr : (Region.ready md ops listed).contains i = true)
    (hQ : ∀ c v (a : Act) w, Q (.panic c) (a.put oi.dst v) w → Q (.panic c) a w) (hw : Region.wanted oi (yielded ops a.tmps) = false) (hS : S w)
    (h : wpAnyH P md ops Q S fuel (listed.setIfInBounds i true) (a.put oi.dst undef) w) : wpAnyH P md ops Q S (fuel + 1) listed a w :=
  wpAnyH_take hi hs hf hr (fun _ _ _ h => hQ _ _ _ _ h) (Or.inr ⟨hw, rfl⟩) hS h

theorem wh_one (hr : Region.ready md ops listed = [i]) (hi : ops[i]? = some oi) (hw : Region.wanted oi (yielded ops a.tmps) = true)
    (h : ∀ K' : Act → World → Prop, Hid (∀ a w, S w → wpAnyH P md ops Q S fuel (listed.setIfInBounds i true) a w → K' a w) → Oper.wp P oi a w K' Q) : wpAnyH P md ops Q S (fuel + 1) listed a w :=
  wpAnyH_all hr (by simp) fun j hj => by
    have : j = i := by simpa using hj
    subst this
    unfold wpOp
    simp only [hi, hw, if_true]
    exact .inl (h _ fun _ _ h1 h2 => ⟨h1, h2⟩)

theorem ld_row {T U : TypeId} {x : Operand} {b i : Nat} {cs : Array Value} {fr : Nat × Nat} {d : TypeDesc} (hL : L[i]? = some (b, .cells cs U fr)) (hx : a.eval x = .pointer (some ⟨b, 0, none⟩))
    (hu : P.underlying T = some d) (hd : (match d with | .struct _ | .array _ _ => true | _ => false) = true) (hi : (P.info? T).map (·.size) = some cs.size) :
    ∀ w, Mem w0 own L w → (execOp a.eval ⟨dst, .load T x, ty, pos, aft, gd⟩).run P w = .ok (.value (.agg cs)) w := fun w hC => by
  unfold execOp
  simp only [hx, Instr.loadAt, Instr.sureAddr, Sem.run_bind, Sem.run_pure, Result.andThen_ok, run_loadVar_row w b U T cs fr d (hC.heap hL) hu hd hi]

theorem ld_cell {T U : TypeId} {x : Operand} {b i off : Nat} {cs : Array Value} {v : Value} {fr : Nat × Nat} {d : TypeDesc} (hL : L[i]? = some (b, .cells cs U fr)) (hx : a.eval x = .pointer (some ⟨b, off, none⟩)) (hv : cs[off]? = some v)
    (hu : P.underlying T = some d) (hd : (match d with | .struct _ | .array _ _ => true | _ => false) = false) :
    ∀ w, Mem w0 own L w → (execOp a.eval ⟨dst, .load T x, ty, pos, aft, gd⟩).run P w = .ok (.value v) w := fun w hC => by
  unfold execOp
  simp only [hx, Instr.loadAt, Instr.sureAddr, Sem.run_bind, Sem.run_pure, Result.andThen_ok, loadVar_cell hC hL hv hu hd]
end

/-! ### A region that draws its order, all of it quiet in a class of worlds -/
section
variable {P : Program} {ops : Array Oper} {C : World → Prop} {Q : Act → Prop} {rest : List Oper} {a : Act} {o : Oper} {w0 : World} {own : List Nat} {L : List (Nat × Obj)}

theorem wq_skip (hw : Region.wanted o (yielded ops a.tmps) = false) (h : wpQuiet P ops C Q rest (a.put o.dst undef)) : wpQuiet P ops C Q (o :: rest) a := by
  unfold wpQuiet
  rw [hw]
  exact h

theorem wq_at {v : Value} (hw : Region.wanted o (yielded ops a.tmps) = true) (hv : ∀ w, C w → o.quietAt P a C w v) (h : wpQuiet P ops C Q rest (a.put o.dst v)) : wpQuiet P ops C Q (o :: rest) a := by
  unfold wpQuiet
  rw [hw]
  exact ⟨v, hv, h⟩

theorem wq_run {v : Value} (hw : Region.wanted o (yielded ops a.tmps) = true) (hv : ∀ w, C w → (execOp a.eval o).run P w = .ok (.value v) w) (h : wpQuiet P ops C Q rest (a.put o.dst v)) : wpQuiet P ops C Q (o :: rest) a :=
  wq_at hw (fun w hC => by unfold Oper.quietAt; rw [hv w hC]; exact ⟨rfl, rfl⟩) h

theorem wq_any (hw : Region.wanted o (yielded ops a.tmps) = true) (h : ∃ v, (∀ w, C w → (execOp a.eval o).run P w = .ok (.value v) w) ∧ wpQuiet P ops C Q rest (a.put o.dst v)) : wpQuiet P ops C Q (o :: rest) a :=
  let ⟨_, h1, h2⟩ := h
  wq_run hw h1 h2

theorem wq_ask (hw : Region.wanted o (yielded ops a.tmps) = true) (h : ∃ v, (∀ w, C w → o.quietAt P a C w v) ∧ wpQuiet P ops C Q rest (a.put o.dst v)) : wpQuiet P ops C Q (o :: rest) a :=
  let ⟨_, h1, h2⟩ := h
  wq_at hw h1 h2

variable {dst : Option Tmp} {ty : TypeId} {pos : String} {aft : Array Edge} {gd : Option (Nat × Bool)}

theorem wq_load {T U : TypeId} {x : Operand} {b i : Nat} {cs : Array Value} {fr : Nat × Nat} {d : TypeDesc} (hw : Region.wanted ⟨dst, .load T x, ty, pos, aft, gd⟩ (yielded ops a.tmps) = true)
    (hL : L[i]? = some (b, .cells cs U fr)) (hx : a.eval x = .pointer (some ⟨b, 0, none⟩))
    (hu : P.underlying T = some d) (hd : (match d with | .struct _ | .array _ _ => true | _ => false) = true) (hi : (P.info? T).map (·.size) = some cs.size)
    (h : wpQuiet P ops (Mem w0 own L) Q rest (a.put dst (.agg cs))) : wpQuiet P ops (Mem w0 own L) Q (⟨dst, .load T x, ty, pos, aft, gd⟩ :: rest) a :=
  wq_run hw (fun w hC => by
    unfold execOp
    simp only [hx, Instr.loadAt, Instr.sureAddr, Sem.run_bind, Sem.run_pure, Result.andThen_ok, run_loadVar_row w b U T cs fr d (hC.heap hL) hu hd hi]) h

theorem wq_loadCell {T U : TypeId} {x : Operand} {b i off : Nat} {cs : Array Value} {v : Value} {fr : Nat × Nat} {d : TypeDesc} (hw : Region.wanted ⟨dst, .load T x, ty, pos, aft, gd⟩ (yielded ops a.tmps) = true)
    (hL : L[i]? = some (b, .cells cs U fr)) (hx : a.eval x = .pointer (some ⟨b, off, none⟩)) (hv : cs[off]? = some v)
    (hu : P.underlying T = some d) (hd : (match d with | .struct _ | .array _ _ => true | _ => false) = false)
    (h : wpQuiet P ops (Mem w0 own L) Q rest (a.put dst v)) : wpQuiet P ops (Mem w0 own L) Q (⟨dst, .load T x, ty, pos, aft, gd⟩ :: rest) a :=
  wq_run hw (fun w hC => by
    unfold execOp
    simp only [hx, Instr.loadAt, Instr.sureAddr, Sem.run_bind, Sem.run_pure, Result.andThen_ok, loadVar_cell hC hL hv hu hd]) h

theorem wq_build {T : TypeId} {parts : Array (Nat × Operand)} {ps : List (Nat × Value)} {cells : Array Value} (hw : Region.wanted ⟨dst, .build T parts, ty, pos, aft, gd⟩ (yielded ops a.tmps) = true)
    (hb : P.built T ps = some cells) (hp : (parts.map fun (i, x) => (i, a.eval x)).toList = ps)
    (h : wpQuiet P ops C Q rest (a.put dst (.agg cells))) : wpQuiet P ops C Q (⟨dst, .build T parts, ty, pos, aft, gd⟩ :: rest) a :=
  wq_run hw (fun w hC => by
    unfold execOp
    simp only [Sem.run_bind, run_build w T _ cells (hp ▸ hb), Result.andThen_ok, Sem.run_pure]) h

/-- One walk of a region that draws, in the class of the worlds that 'Mem w0 own L' tells. -/
theorem wp_quiet_mem {id : Nat} {Q : Exit → Act → World → Prop} {a : Act} {w : World} {l : List Oper} (hf : P.follows .mixedOrders = true) (hB : Region.lexB .any l.toArray = true) (hm : Mem w0 own L w)
    (h : wpQuiet P l.toArray (Mem w0 own L) (fun a' => ∀ w', Mem w0 own L w' → Q .normal a' w') l a) : (Code.region id l.toArray true).wp P Q a w :=
  wp_region_quiet (C := Mem w0 own L) hf hB (hm.drawn _) (by simpa using h)
end

/-! ### The results -/
section
variable {P : Program}
theorem results_row_tmp {fn : Func} {p q : Tmp} {T : TypeId} (h : fn.results = #[.cell p T, .tmp q]) (tmps : Array Value) (w : World) (g : Nat) (U : TypeId) (cs : Array Value) (fr : Nat × Nat) (d : TypeDesc)
    (hp : tmps.getD p undef = .pointer (some ⟨g, 0, none⟩)) (hg : w.heap[g]? = some (.cells cs U fr))
    (hu : P.underlying T = some d) (hd : (match d with | .struct _ | .array _ _ => true | _ => false) = true) (hi : (P.info? T).map (·.size) = some cs.size) :
    (results fn tmps).run P w = .ok (.tuple #[.agg cs, tmps.getD q undef]) w := by
  have hp' : tmps[p]?.getD undef = .pointer (some ⟨g, 0, none⟩) := by simpa using hp
  simp [results, h, hp', asAddr, run_loadVar_row w g U T cs fr d hg hu hd hi]
end

/-! ### Equality of arrays of integers -/
section
variable {P : Program}
theorem run_eqInts (w : World) (d : Nat) {e : TypeId} {k : IntKind} (hu : P.underlying e = some (.int k)) (xs ys : Array Value) (f g : Nat → Int) : ∀ (is : List Nat),
    (∀ i, i ∈ is → xs[i]? = some (.int k (f i)) ∧ ys[i]? = some (.int k (g i))) → (Op.eqItems (d + 1) e 1 xs ys is).run P w = .ok (is.all fun i => f i == g i) w
  | [], _ => by simp [Op.eqItems]
  | i :: is, h => by
    have he : P.plainKey e = true := by unfold Program.plainKey; rw [hu]
    have p1 := run_part_plain (P := P) w he (off := i * 1) (by rw [Nat.mul_one]; exact (h i (List.mem_cons_self ..)).1)
    have p2 := run_part_plain (P := P) w he (off := i * 1) (by rw [Nat.mul_one]; exact (h i (List.mem_cons_self ..)).2)
    have p3 := run_equalIn_int (P := P) w d e k k (f i) (g i) hu
    have ih := run_eqInts w d hu xs ys f g is fun j hj => h j (List.mem_cons_of_mem _ hj)
    simp only [Op.eqItems, Sem.run_bind, p1, p2, p3, Result.andThen_ok]
    cases hfg : (f i == g i)
    · simp [hfg]
    · simp [hfg, ih]

theorem run_equalInts (w : World) (d : Nat) {t e : TypeId} {n : Nat} {k : IntKind} (ht : P.underlying t = some (.array n e)) (hu : P.underlying e = some (.int k)) (hs : (P.info? e).map (·.size) = some 1)
    (xs ys : Array Value) (f g : Nat → Int) (h : ∀ i, i < n → xs[i]? = some (.int k (f i)) ∧ ys[i]? = some (.int k (g i))) :
    (Op.equalIn (d + 2) t (.agg xs) (.agg ys)).run P w = .ok ((List.range n).all fun i => f i == g i) w := by
  cases hi : P.info? e with
  | none => simp [hi] at hs
  | some it =>
    have hc : P.cellsOf e = 1 := by
      have : it.size = 1 := by simpa [hi] using hs
      simp [Program.cellsOf, hi, this]
    rw [run_equalIn_array w (d + 1) xs ys ht hi, hc]
    exact run_eqInts w d hu xs ys f g _ fun i hi => h i (List.mem_range.1 hi)
end

theorem wrap_u64 {x : Int} (h0 : 0 ≤ x) (h1 : x < 18446744073709551616) : IntKind.u64.wrap x = x := by
  simp only [IntKind.wrap, IntKind.bits, IntKind.signed, Bool.false_and, Bool.true_and, decide_eq_true_eq, Bool.false_eq_true, if_false]; omega
theorem wrap_u32 {x : Int} (h0 : 0 ≤ x) (h1 : x < 4294967296) : IntKind.u32.wrap x = x := by
  simp only [IntKind.wrap, IntKind.bits, IntKind.signed, Bool.false_and, Bool.true_and, decide_eq_true_eq, Bool.false_eq_true, if_false]; omega
theorem wrap_u8 {x : Int} (h0 : 0 ≤ x) (h1 : x < 256) : IntKind.u8.wrap x = x := by
  simp only [IntKind.wrap, IntKind.bits, IntKind.signed, Bool.false_and, Bool.true_and, decide_eq_true_eq, Bool.false_eq_true, if_false]; omega
theorem wrap_i64 {x : Int} (h0 : -9223372036854775808 ≤ x) (h1 : x < 9223372036854775808) : IntKind.i64.wrap x = x := by
  rw [IntKind.wrap_i64]; omega

/-! ### Arrays told by a function of the place -/
@[irreducible] def rowOf (n : Nat) (f : Nat → Value) : Array Value := Array.ofFn (n := n) fun i => f i.1

theorem rowOf_size (n : Nat) (f : Nat → Value) : (rowOf n f).size = n := by unfold rowOf; simp
theorem rowOf_get (n : Nat) (f : Nat → Value) (i : Nat) (h : i < n) : (rowOf n f)[i]? = some (f i) := by unfold rowOf; simp [h]
theorem rowOf_congr {n : Nat} {f g : Nat → Value} (h : ∀ i, i < n → f i = g i) : rowOf n f = rowOf n g := by
  apply Array.ext_getElem?
  intro i
  by_cases hi : i < n
  · rw [rowOf_get n f i hi, rowOf_get n g i hi, h i hi]
  · rw [Array.getElem?_eq_none (by rw [rowOf_size]; omega), Array.getElem?_eq_none (by rw [rowOf_size]; omega)]
theorem rowOf_set (n : Nat) (f : Nat → Value) (i : Nat) (v : Value) : (rowOf n f).setIfInBounds i v = rowOf n (fun j => if j = i then v else f j) := by
  apply Array.ext_getElem?
  intro j
  rw [Array.getElem?_setIfInBounds, rowOf_size]
  by_cases hj : j < n
  · rw [rowOf_get n f j hj, rowOf_get _ _ j hj]
    by_cases hij : i = j
    · subst hij; simp [hj]
    · rw [if_neg hij, if_neg (fun e => hij e.symm)]
  · rw [Array.getElem?_eq_none (by rw [rowOf_size]; omega : (rowOf n f).size ≤ j), Array.getElem?_eq_none (by rw [rowOf_size]; omega)]
    split
    · rename_i h1; rw [if_neg (by omega)]
    · rfl
theorem rowOf_one (n : Nat) (f : Nat → Value) (h : ∀ i, i < n → (f i).oneCell' = true) : (rowOf n f).all (·.oneCell') = true := by
  rw [Array.all_eq_true]
  intro i hi
  have hi' : i < n := by simpa [rowOf_size] using hi
  have := rowOf_get n f i hi'
  rw [Array.getElem?_eq_getElem hi] at this
  rw [Option.some.inj this]
  exact h i hi'
end Go.Proofs.Ytijkmbebfodhdaa

/- (Mem2)
  The symbolic heap, continued: slices that the call made, appended to and read; bytes and strings.
-/
namespace Go.Proofs.Ytijkmbebfodhdaa
open Go.RowKit
set_option linter.unusedSimpArgs false
set_option linter.unusedVariables false

/-- T is a slice type over E, whose values take sz cells. -/
def El (P : Program) (T E : TypeId) (sz bytes : Nat) (z : Value) : Prop := P.underlying T = some (.slice E) ∧ ∃ i, P.info? E = some i ∧ i.size = sz ∧ i.bytes = bytes ∧ i.zero = some z

theorem El.mk {P : Program} {T E : TypeId} {sz bytes : Nat} {z : Value} (h : P.underlying T = some (.slice E)) (hi : (P.info? E).map (fun i => (i.zero, i.size, i.bytes)) = some (some z, sz, bytes)) : El P T E sz bytes z := by
  refine ⟨h, ?_⟩
  cases hq : P.info? E with
  | none => simp [hq] at hi
  | some i =>
    simp [hq] at hi
    exact ⟨i, rfl, hi.2.1, hi.2.2, hi.1⟩

section
variable {w0 w w' : World} {own : List Nat} {L : List (Nat × Obj)}

/-- A new block takes the place of another one in the list. -/
theorem Mem.moved {b : Nat} {o : Obj} (h : Mem w0 own ((b, o) :: L) w) (i : Nat) : Mem w0 own (L.set i (b, o)) w := by
  have key : ∀ j p, (L.set i (b, o))[j]? = some p → (j = i ∧ p = (b, o)) ∨ (j ≠ i ∧ L[j]? = some p) := fun j p hj => by
    rw [List.getElem?_set] at hj
    split at hj
    · rename_i hij
      split at hj
      · exact Or.inl ⟨hij.symm, (Option.some.inj hj).symm⟩
      · cases hj
    · rename_i hij
      exact Or.inr ⟨fun e => hij e.symm, hj⟩
  have far : ∀ (j : Nat) (p : Nat × Obj), L[j]? = some p → p.1 ≠ b := fun j p hj e => by
    have := h.apart (j + 1) 0 p (b, o) (by simpa using hj) (by simp) e
    omega
  refine ⟨h.os, h.tape, h.output, h.size, h.old, fun p hp => ?_, fun p hp => ?_, fun j k p q hj hk e => ?_⟩
  · obtain ⟨j, hj⟩ := List.mem_iff_getElem?.1 hp
    rcases key j p hj with ⟨_, rfl⟩ | ⟨_, hj⟩
    · exact h.has _ (List.mem_cons_self ..)
    · exact h.has _ (List.mem_cons_of_mem _ (List.mem_of_getElem? hj))
  · obtain ⟨j, hj⟩ := List.mem_iff_getElem?.1 hp
    rcases key j p hj with ⟨_, rfl⟩ | ⟨_, hj⟩
    · exact h.may _ (List.mem_cons_self ..)
    · exact h.may _ (List.mem_cons_of_mem _ (List.mem_of_getElem? hj))
  · rcases key j p hj with ⟨hji, rfl⟩ | ⟨hji, hj⟩
    · rcases key k q hk with ⟨hki, rfl⟩ | ⟨hki, hk⟩
      · rw [hji, hki]
      · exact (far k q hk e.symm).elim
    · rcases key k q hk with ⟨hki, rfl⟩ | ⟨hki, hk⟩
      · exact (far j p hj e).elim
      · have := h.apart (j + 1) (k + 1) p q (by simpa using hj) (by simpa using hk) e
        omega
end

theorem grownCap_le (w : World) (need old : Nat) (e : TypeId) : need ≤ grownCap w need old e := by
  unfold grownCap Question.cut
  exact Nat.le_add_right _ _
theorem grownCap_max (w : World) (need old : Nat) (e : TypeId) (h : need < 2 ^ 63) : grownCap w need old e < 2 ^ 63 := by
  unfold grownCap Question.cut
  have := Nat.mod_lt (w.tape w.drawn (.appendCap need old e)) (show 0 < 2 ^ 63 - need by omega)
  simp only
  omega
theorem zeroCells_size (z : Array Value) (n : Nat) : (Builtin.zeroCells z n).size = n * z.size := by simp [Builtin.zeroCells]

section
variable {P : Program} {ops : Array Oper} {Q : Exit → Act → World → Prop} {rest : List Oper} {a : Act} {w0 w : World} {own : List Nat} {L : List (Nat × Obj)}
  {dst : Option Tmp} {ty : TypeId} {pos : String} {aft : Array Edge} {gd : Option (Nat × Bool)} {K : Act → World → Prop}

/-- 'append' onto a slice that begins at the head of a block of ours. -/
theorem ow_append {T E : TypeId} {sz bytes : Nat} {z : Value} {x y : Operand} {g i n cap m c : Nat} {cur : Array Value} {ad : Addr} {news : List Value} (hm : Mem w0 own L w) (hel : El P T E sz bytes z) (hz : z.cells.size = sz)
    (hL : L[i]? = some (g, .cells cur E (0, 0))) (hx : a.eval x = .slice (some ⟨g, 0, none⟩) n cap) (hy : a.eval y = .slice (some ad) m c) (hcap : n ≤ cap) (hcur : cur.size = cap * sz)
    (hl : news.length = m * sz) (hnews : ∀ j u, news[j]? = some u → w.cell? (ad.add j) = some u) (h1 : ∀ u ∈ news, u.oneCell' = true) (hb : (n + m) * bytes ≤ 140737488355328) (hb' : n + m < 2 ^ 63)
    (h : ∀ g' cap' cur' w', Mem w0 own (L.set i (g', .cells cur' E (0, 0))) w' → n + m ≤ cap' → (cap < 2 ^ 63 → cap' < 2 ^ 63) → cur'.size = cap' * sz → (∀ j, j < n * sz → cur'[j]? = cur[j]?) → (∀ j, j < m * sz → cur'[n * sz + j]? = news[j]?) → (n + m ≤ cap → cap' = cap) →
      K (a.put dst (.slice (some ⟨g', 0, none⟩) (n + m) cap')) w') : Oper.wp P ⟨dst, .call ⟨.builtin .append, #[x, y], #[T, T]⟩, ty, pos, aft, gd⟩ a w K Q := by
  obtain ⟨ht, it, hi, rfl, rfl, hzz⟩ := hel
  have hcells : ∀ j v, (cur.toList.take (n * it.size))[j]? = some v → w.cell? ((⟨g, 0, none⟩ : Addr).add j) = some v := fun j v hv => by
    rw [Addr.add_mid, hm.cell hL]
    rw [List.getElem?_take] at hv
    split at hv
    · simpa using hv
    · cases hv
  have hle : n * it.size ≤ cap * it.size := Nat.mul_le_mul_right _ hcap
  by_cases hroom : n + m ≤ cap
  · have hfit : n * it.size + news.length ≤ cur.size := by rw [hl, hcur, ← Nat.add_mul]; exact Nat.mul_le_mul_right _ hroom
    have hr := run_append_room (P := P) w T ty E it ht hi g n cap cur (hm.heap hL) ad m c news hl hnews h1 hroom hfit
    unfold Oper.wp execOp
    simp only [resolve, invoke, builtin, Sem.run_bind, Sem.run_pure, Result.andThen_ok, List.map_toArray, List.map_cons, List.map_nil, hx, hy, hr]
    refine h g cap _ _ (hm.setRow hL _) hroom id ?_ ?_ ?_ (fun _ => rfl)
    · simp; rw [hl] at hfit ⊢; omega
    · intro j hj
      have : j < cur.toList.length := by simp; omega
      simp only [List.getElem?_toArray, List.append_assoc]
      rw [List.getElem?_append_left (by simp; omega), List.getElem?_take, if_pos hj]
      simp
    · intro j hj
      simp only [List.getElem?_toArray, List.append_assoc]
      have e : (cur.toList.take (n * it.size)).length = n * it.size := by simp; omega
      rw [List.getElem?_append_right (by omega), e, Nat.add_sub_cancel_left, List.getElem?_append_left (by omega)]
  · have hr := run_append_grow (P := P) w T ty E it z ht hi hzz ⟨g, 0, none⟩ n cap (cur.toList.take (n * it.size)) (by simp; omega) hcells ad m c news hl hnews (by omega) (by omega) (growslice_fits (by omega) hb)
    unfold Oper.wp execOp
    simp only [resolve, invoke, builtin, Sem.run_bind, Sem.run_pure, Result.andThen_ok, List.map_toArray, List.map_cons, List.map_nil, hx, hy, hr]
    have hge := grownCap_le w (n + m) cap E
    refine h _ _ _ _ ((hm.drew.alloc _).moved i) hge (fun _ => grownCap_max w _ _ _ hb') ?_ ?_ ?_ (fun h => absurd h hroom)
    · simp only [Array.size_append, List.size_toArray, zeroCells_size, hl, hz, List.length_take, Array.length_toList]
      rw [Nat.min_eq_left (by omega), ← Nat.add_mul, ← Nat.add_mul]
      congr 1
      omega
    · intro j hj
      have e : (cur.toList.take (n * it.size)).length = n * it.size := by simp; omega
      rw [Array.append_assoc, Array.getElem?_append_left (by simp; omega)]
      simp [List.getElem?_take, hj]
    · intro j hj
      have e : (cur.toList.take (n * it.size)).length = n * it.size := by simp; omega
      rw [Array.append_assoc, Array.getElem?_append_right (by simp; omega)]
      simp only [List.size_toArray, e, Nat.add_sub_cancel_left]
      rw [Array.getElem?_append_left (by simp; omega)]
      simp

/-- 'append' onto a nil slice. -/
theorem ow_append_nil {T E : TypeId} {sz bytes : Nat} {z : Value} {x y : Operand} {m c : Nat} {ad : Addr} {news : List Value} (hm : Mem w0 own L w) (hel : El P T E sz bytes z) (hz : z.cells.size = sz)
    (hx : a.eval x = .slice none 0 0) (hy : a.eval y = .slice (some ad) m c) (hm0 : 0 < m)
    (hl : news.length = m * sz) (hnews : ∀ j u, news[j]? = some u → w.cell? (ad.add j) = some u) (hb : m * bytes ≤ 140737488355328) (hb' : m < 2 ^ 63)
    (h : ∀ g' cap' cur' w', Mem w0 own ((g', .cells cur' E (0, 0)) :: L) w' → m ≤ cap' → cap' < 2 ^ 63 → cur'.size = cap' * sz → (∀ j, j < m * sz → cur'[j]? = news[j]?) →
      K (a.put dst (.slice (some ⟨g', 0, none⟩) m cap')) w') : Oper.wp P ⟨dst, .call ⟨.builtin .append, #[x, y], #[T, T]⟩, ty, pos, aft, gd⟩ a w K Q := by
  obtain ⟨ht, it, hi, rfl, rfl, hzz⟩ := hel
  have hr := run_append_nil (P := P) w T ty E it z ht hi hzz ad m c news hl hnews hm0 (by omega) (by omega)
  unfold Oper.wp execOp
  simp only [resolve, invoke, builtin, Sem.run_bind, Sem.run_pure, Result.andThen_ok, List.map_toArray, List.map_cons, List.map_nil, hx, hy, hr]
  have hge := grownCap_le w m 0 E
  refine h _ _ _ _ (hm.drew.alloc _) hge (grownCap_max w _ _ _ hb') ?_ ?_
  · simp only [Array.size_append, List.size_toArray, zeroCells_size, hl, hz]
    rw [← Nat.add_mul]
    congr 1
    omega
  · intro j hj
    rw [Array.getElem?_append_left (by simp; omega)]
    simp

theorem ow_make {T E : TypeId} {sz bytes : Nat} {z : Value} {x y : Operand} {kl kc : IntKind} {l c : Nat} (hm : Mem w0 own L w) (hel : El P T E sz bytes z) (hx : a.eval x = .int kl (l : Int)) (hy : a.eval y = .int kc (c : Int)) (hlc : l ≤ c) (hb : bytes * c ≤ 281474976710656) (hb' : c < 2 ^ 63)
    (h : ∀ g w', Mem w0 own ((g, .cells (madeCells z.cells (c * sz)) E (0, 0)) :: L) w' → K (a.put dst (.slice (some ⟨g, 0, none⟩) l c)) w') : Oper.wp P ⟨dst, .makeSlice T x y, ty, pos, aft, gd⟩ a w K Q := by
  obtain ⟨ht, it, hi, rfl, rfl, hzz⟩ := hel
  have hr := run_make (P := P) w T E it z ht hi hzz kl kc l c (by omega) (by omega) (by have : ((it.bytes * c : Nat) : Int) ≤ 281474976710656 := (by omega); rwa [Int.natCast_mul] at this) (by omega)
  unfold Oper.wp execOp
  simp only [hx, hy, Sem.run_bind, Sem.run_pure, Result.andThen_ok, hr, Int.toNat_natCast]
  exact h _ _ (hm.alloc _)

theorem made_one (z : Value) (n : Nat) : madeCells #[z] n = rowOf n fun _ => z := by
  apply Array.ext_getElem?
  intro i
  by_cases hi : i < n
  · rw [rowOf_get _ _ _ hi]; simp [madeCells, hi, Nat.mod_one]
  · rw [Array.getElem?_eq_none (by simp [madeCells]; omega), Array.getElem?_eq_none (by rw [rowOf_size]; omega)]

theorem ow_buildSlice {T E : TypeId} {sz bytes : Nat} {z : Value} {len : Nat} {parts : Array (Nat × Operand)} {ps : List (Nat × Value)} {cells : Array Value} (hm : Mem w0 own L w) (hel : El P T E sz bytes z) (h0 : len * sz ≠ 0) (hb : len * sz ≤ 16777216)
    (hp : (parts.map fun (i, x) => (i, a.eval x)).toList = ps) (hc : Instr.fill (fun i => some (i * sz, sz)) ((Array.range (len * sz)).map fun i => z.cells[i % z.cells.size]!) ps = some cells)
    (h : ∀ g w', Mem w0 own ((g, .cells cells E (0, 0)) :: L) w' → K (a.put dst (.slice (some ⟨g, 0, none⟩) len len)) w') : Oper.wp P ⟨dst, .buildSlice T len parts, ty, pos, aft, gd⟩ a w K Q := by
  obtain ⟨ht, it, hi, rfl, rfl, hzz⟩ := hel
  have hr : ∀ pp : Array (Nat × Value), pp.toList = ps → (Instr.buildSlice T len pp).run P w = .ok (.slice (some ⟨w.heap.size, 0, none⟩) len len) (w.alloc (.cells cells E)) := fun pp hpp => by
    have hn : ¬ (16777216 < len * it.size) := by omega
    simp [Instr.buildSlice, run_underlying ht, sizeOf, typeInfo, hi, zeroValue, hzz, newRow, hn, h0, hpp, hc]
  unfold Oper.wp execOp
  simp only [Sem.run_bind, Sem.run_pure, Result.andThen_ok, hr _ hp]
  exact h _ _ (hm.alloc _)

theorem fill_one (z v : Value) (h : v.cells = #[v]) : Instr.fill (fun i => some (i * 1, 1)) ((Array.range (1 * 1)).map fun i => z.cells[i % z.cells.size]!) [(0, v)] = some #[v] := by
  simp [Instr.fill, h, show Array.range 1 = #[0] from rfl]
theorem fill_two (z u v : Value) (hu : u.cells = #[u]) (hv : v.cells = #[v]) : Instr.fill (fun i => some (i * 1, 1)) ((Array.range (2 * 1)).map fun i => z.cells[i % z.cells.size]!) [(0, u), (1, v)] = some #[u, v] := by
  simp [Instr.fill, hu, hv, show Array.range 2 = #[0, 1] from rfl]

theorem news_of {g i : Nat} {cs : Array Value} {U : TypeId} {fr : Nat × Nat} (hm : Mem w0 own L w) (hL : L[i]? = some (g, .cells cs U fr)) : ∀ j u, cs.toList[j]? = some u → w.cell? ((⟨g, 0, none⟩ : Addr).add j) = some u := fun j u hj => by
  rw [Addr.add_mid, hm.cell hL]
  simpa using hj

/-- n bytes, told by a function of the place. -/
@[irreducible] def bytesB (n : Nat) (f : Nat → Nat) : ByteArray := ⟨((List.range n).map fun j => UInt8.ofNat (f j)).toArray⟩
theorem bytesB_size (n : Nat) (f : Nat → Nat) : (bytesB n f).size = n := by unfold bytesB; simp [ByteArray.size]
theorem bytesB_toList (n : Nat) (f : Nat → Nat) : (bytesB n f).data.toList = (List.range n).map fun j => UInt8.ofNat (f j) := by unfold bytesB; simp

theorem foldl_push (l : List Int) : ∀ (s : ByteArray), l.foldl (fun r n => r.push (UInt8.ofNat n.toNat)) s = ⟨(s.data.toList ++ l.map fun n => UInt8.ofNat n.toNat).toArray⟩ := by
  induction l with
  | nil => intro s; simp
  | cons n l ih => intro s; rw [List.foldl_cons, ih]; simp

theorem run_toString {S D E : TypeId} (hs : P.underlying S = some (.slice E)) (he : P.underlying E = some (.int .u8)) (hd : P.underlying D = some .string) (hm : Mem w0 own L w) {i g off n cap : Nat} {cur : Array Value} {U : TypeId} {fr : Nat × Nat} (hL : L[i]? = some (g, .cells cur U fr))
    (f : Nat → Nat) (hc : ∀ j, j < n → cur[off + j]? = some (.int .u8 ((f j : Nat) : Int))) : (convert S D (.slice (some ⟨g, off, none⟩) n cap)).run P w = .ok (.string (bytesB n f)) w := by
  have hl : (loadCells ⟨g, off, none⟩ ((List.range n).map fun j => Value.int .u8 ((f j : Nat) : Int)).length).run P w = .ok ((List.range n).map fun j => Value.int .u8 ((f j : Nat) : Int)).toArray w :=
    run_loadCells_list (P := P) w ⟨g, off, none⟩ _ (fun j v hv => by
      rw [Addr.add_mid, hm.cell hL]
      rw [List.getElem?_map] at hv
      by_cases hj : j < n
      · rw [hc j hj]
        simpa [hj] using hv
      · simp [List.getElem?_eq_none (show (List.range n).length ≤ j by simp; omega)] at hv)
  rw [run_convert_bytes_string w S D E _ _ _ hs he hd, run_bytesToString w ⟨g, off, none⟩ n cap ((List.range n).map fun j => ((f j : Nat) : Int)) (by simpa [List.map_map, Function.comp_def] using hl), foldl_push]
  unfold bytesB
  simp [List.map_map, Function.comp_def]
end
end Go.Proofs.Ytijkmbebfodhdaa

/- (Mem3)
  A region that draws its order, all of it quiet but its last operation, which waits for every other one: the last one is walked last, whatever order is drawn.
-/
namespace Go.Proofs.Ytijkmbebfodhdaa
open Go.RowKit
set_option linter.unusedSimpArgs false
set_option linter.unusedVariables false

/-- The operation with nothing in it. -/
def hush (o : Oper) : Oper := { o with op := .move (.const undef) }

/-- Each operation waits for lower ones alone; the last one for all, it writes no slot and bears no guard. -/
def lastB (ops : Array Oper) : Bool :=
  (List.range ops.size).all (fun i => match ops[i]? with
    | some o => o.after.all fun e => !Region.binds .any e || decide (e.on < i)
    | none => true) &&
  match ops[ops.size - 1]? with
  | some o => o.dst.isNone && o.guard.isNone && (List.range (ops.size - 1)).all fun i => o.after.any fun e => Region.binds .any e && e.on == i
  | none => false

section
variable {P : Program} {Q : Exit → Act → World → Prop} {l : List Oper} {o : Oper}

/-- What is asked: ahead of the last operation, the last operation. -/
def Late (P : Program) (ops : Array Oper) (o : Oper) (Q : Exit → Act → World → Prop) : Exit → Act → World → Prop
  | .normal, a, w => wpList P ops Q [o] a w
  | e, a, w => Q e a w

theorem wp_late {ops : Array Oper} {o' : Oper} {a : Act} {w : World} {K : Act → World → Prop} (h : o'.wp P a w K (Late P ops o Q)) : o'.wp P a w K Q := by
  unfold Oper.wp at *
  generalize (execOp a.eval o').run P w = r at *
  cases r with
  | ok n w' =>
    cases n <;> simp only [Oper.upon] at h ⊢ <;>
      first
        | exact h
        | exact Calls.mono h (fun e w'' he => by cases e <;> exact he)
  | halt x w' => cases x <;> simp only [Oper.upon] at h ⊢ <;> exact h

theorem ready_hush (listed : Array Bool) : Region.ready .any (l ++ [hush o]).toArray listed = Region.ready .any (l ++ [o]).toArray listed := by
  unfold Region.ready
  simp only [List.size_toArray, List.length_append, List.length_cons, List.length_nil]
  apply List.filter_congr
  intro i hi
  have : (((l ++ [hush o]).toArray[i]?).map (·.after.all fun e => !Region.binds .any e || listed.getD e.on false)) = (((l ++ [o]).toArray[i]?).map (·.after.all fun e => !Region.binds .any e || listed.getD e.on false)) := by
    simp only [List.getElem?_toArray, List.getElem?_append]
    split
    · rfl
    · cases h : i - l.length with
      | zero => simp [hush]
      | succ k => simp
  rw [this]

theorem yielded_hush (tmps : Array Value) : yielded (l ++ [hush o]).toArray tmps = yielded (l ++ [o]).toArray tmps := by
  funext j
  unfold yielded
  have : ((l ++ [hush o]).toArray[j]?).bind (·.dst) = ((l ++ [o]).toArray[j]?).bind (·.dst) := by
    simp only [List.getElem?_toArray, List.getElem?_append]
    split
    · rfl
    · cases h : j - l.length with
      | zero => simp [hush]
      | succ k => simp
  rw [this]

/-- Some operation may come up as long as one is left. -/
theorem some_ready {ops : Array Oper} {listed : Array Bool} (hB : lastB ops = true) (hs : listed.size = ops.size) : ∀ (j : Nat), j < ops.size → listed.getD j true = false → Region.ready .any ops listed ≠ [] := by
  intro j
  induction j using Nat.strongRecOn with
  | _ j ih =>
    intro hj hl hr
    have hall : ∀ i, i < j → listed.getD i false = true := fun i hi => by
      cases h : listed.getD i false with
      | true => rfl
      | false =>
        have h' : listed.getD i true = false := by
          have : i < listed.size := by omega
          simp [this] at h ⊢; exact h
        exact absurd hr (ih i hi (by omega) h')
    unfold lastB at hB
    simp only [Bool.and_eq_true, List.all_eq_true, List.mem_range] at hB
    have hf := hB.1 j hj
    have ho : ops[j]? = some ops[j] := Array.getElem?_eq_getElem hj
    rw [ho] at hf
    have : j ∈ Region.ready .any ops listed := mem_ready.2 ⟨hl, _, ho, fun e he hb => by
      have h1 := Array.all_eq_true_iff_forall_mem.1 hf e he
      rw [hb] at h1
      exact hall _ (by simpa using h1)⟩
    rw [hr] at this
    cases this

theorem any_of_hush (hB : lastB (l ++ [o]).toArray = true) : ∀ (f : Nat) (listed : Array Bool) (a : Act) (w : World), listed.size = l.length + 1 → listed.getD l.length true = false →
    wpAny P .any (l ++ [hush o]).toArray (Late P (l ++ [o]).toArray o Q) f listed a w → wpAny P .any (l ++ [o]).toArray Q f listed a w
  | 0, listed, a, w, hs, hn, h => by
    have h1 := h.1
    rw [ready_hush] at h1
    exact absurd h1 (some_ready hB (by simpa using hs) l.length (by simp) hn)
  | f + 1, listed, a, w, hs, hn, h => by
    have hne := some_ready hB (by simpa using hs) l.length (by simp) hn
    refine ⟨fun h0 => absurd h0 hne, fun i hi => ?_⟩
    have hstep := h.2 i (by rw [ready_hush]; exact hi)
    obtain ⟨hiun, oi, hoi, hafter⟩ := mem_ready.1 hi
    have hilt : i < l.length + 1 := by simpa using (Array.getElem?_eq_some_iff.1 hoi).1
    have hB' := hB
    unfold lastB at hB'
    simp only [Bool.and_eq_true] at hB'
    have hlast := hB'.2
    have hget : (l ++ [o]).toArray[(l ++ [o]).toArray.size - 1]? = some o := by simp
    rw [hget] at hlast
    simp only [Bool.and_eq_true, List.all_eq_true, List.mem_range] at hlast
    obtain ⟨⟨hd, hg⟩, hw⟩ := hlast
    by_cases hil : i = l.length
    · subst hil
      have ho1 : (l ++ [hush o]).toArray[l.length]? = some (hush o) := by simp
      have ho2 : (l ++ [o]).toArray[l.length]? = some o := by simp
      have hoe : oi = o := Option.some.inj (hoi.symm.trans ho2)
      subst hoe
      have hwant : ∀ y, Region.wanted oi y = true := fun y => by
        have : oi.guard = none := by simpa using hg
        simp [Region.wanted, this]
      have hwant' : ∀ y, Region.wanted (hush oi) y = true := fun y => by
        have : (hush oi).guard = none := by simpa [hush] using hg
        simp [Region.wanted, this]
      have hdst : oi.dst = none := by simpa using hd
      unfold wpOp at hstep
      simp only [ho1, hwant', if_true] at hstep
      have hK : wpAny P .any (l ++ [hush oi]).toArray (Late P (l ++ [oi]).toArray oi Q) f (listed.setIfInBounds l.length true) a w := by
        rcases hstep with h1 | ⟨h1, _⟩
        · have : ((hush oi).wp P a w (wpAny P .any (l ++ [hush oi]).toArray (Late P (l ++ [oi]).toArray oi Q) f (listed.setIfInBounds l.length true)) (Late P (l ++ [oi]).toArray oi Q)) =
              wpAny P .any (l ++ [hush oi]).toArray (Late P (l ++ [oi]).toArray oi Q) f (listed.setIfInBounds l.length true) (a.put (hush oi).dst undef) w := rfl
          rw [this] at h1
          have hp : a.put (hush oi).dst undef = a := by simp [hush, hdst, Act.put]
          rwa [hp] at h1
        · have hev := h1.1
          have : ((execOp a.eval (hush oi)).runT P w #[]).2 = #[] := rfl
          rw [this] at hev
          exact absurd hev (by simp)
      have hlisted : ∀ j, j < l.length + 1 → (listed.setIfInBounds l.length true).getD j true = true := fun j hj => by
        by_cases hjl : j = l.length
        · subst hjl; simp [hs]
        · have h2 := hw j (by simp; omega)
          obtain ⟨e, he, hb⟩ := Array.any_eq_true'.1 h2
          simp only [Bool.and_eq_true, beq_iff_eq] at hb
          have h3 := hafter e he hb.1
          rw [hb.2] at h3
          have hjs : j < listed.size := by omega
          rw [Array.getD_eq_getD_getElem?, Array.getElem?_setIfInBounds, if_neg (fun e => hjl e.symm)]
          simp [hjs] at h3 ⊢
          exact h3
      have hnone : Region.ready .any (l ++ [oi]).toArray (listed.setIfInBounds l.length true) = [] := by
        apply List.eq_nil_iff_forall_not_mem.2
        intro j hj
        obtain ⟨h1, o2, ho3, _⟩ := mem_ready.1 hj
        have hjlt : j < l.length + 1 := by simpa using (Array.getElem?_eq_some_iff.1 ho3).1
        rw [hlisted j hjlt] at h1
        cases h1
      have hQ : wpList P (l ++ [oi]).toArray Q [oi] a w := by
        cases f with
        | zero => exact hK.2
        | succ f => exact hK.1 (by rw [ready_hush]; exact hnone)
      unfold wpList at hQ
      rw [if_pos (hwant _)] at hQ
      unfold wpOp
      simp only [ho2, hwant, if_true]
      refine hQ.imp (Oper.wp_mono fun a' w' hq => ?_) id
      have hq' : Q .normal a' w' := hq
      cases f with
      | zero => exact ⟨hnone, hq'⟩
      | succ f => exact ⟨fun _ => hq', fun j hj => by rw [hnone] at hj; cases hj⟩
    · have hlt : i < l.length := by omega
      have ho1 : (l ++ [hush o]).toArray[i]? = some l[i] := by simp [List.getElem?_append_left hlt, hlt]
      have ho2 : (l ++ [o]).toArray[i]? = some l[i] := by simp [List.getElem?_append_left hlt, hlt]
      have hnext : ∀ a' w', wpAny P .any (l ++ [hush o]).toArray (Late P (l ++ [o]).toArray o Q) f (listed.setIfInBounds i true) a' w' → wpAny P .any (l ++ [o]).toArray Q f (listed.setIfInBounds i true) a' w' := fun a' w' h' =>
        any_of_hush hB f _ a' w' (by simp [hs]) (by
          rw [Array.getD_eq_getD_getElem?, Array.getElem?_setIfInBounds, if_neg hil, ← Array.getD_eq_getD_getElem?]; exact hn) h'
      unfold wpOp at hstep ⊢
      simp only [ho1, ho2, yielded_hush] at hstep ⊢
      split
      · rename_i hw'
        simp only [hw', if_true] at hstep
        rcases hstep with h1 | ⟨h1, h2⟩
        · exact .inl (Oper.wp_mono hnext (wp_late h1))
        · exact .inr ⟨h1, h2⟩
      · rename_i hw'
        simp only [hw'] at hstep
        exact hnext _ _ hstep

/-- THE LAW. -/
theorem wp_quiet_last {w0 w : World} {own : List Nat} {L : List (Nat × Obj)} {id : Nat} {a : Act} {l : List Oper} (n : Nat) {o : Oper} (hf : P.follows .mixedOrders = true) (ho : l.drop n = [o]) (hB : lastB l.toArray = true) (hX : Region.lexB .any (l.take n ++ [hush o]).toArray = true) (hm : Mem w0 own L w)
    (h : wpQuiet P (l.take n ++ [hush o]).toArray (Mem w0 own L) (fun a' => ∀ w', Mem w0 own L w' → wpList P l.toArray Q [o] a' w') (l.take n) a) : (Code.region id l.toArray true).wp P Q a w := by
  have hl : l = l.take n ++ [o] := by rw [← ho, List.take_append_drop]
  generalize l.take n = k at *
  subst hl
  refine wp_region_any hf (any_of_hush hB _ _ _ _ (by simp) (by simp) ?_)
  have hsz : (k ++ [o]).toArray.size = (k ++ [hush o]).toArray.size := by simp
  rw [hsz]
  simp only [Region.lexB, Bool.and_eq_true] at hX
  refine wpAny_of_quiet (C := Mem w0 own L) (Q := fun a' => ∀ w', Mem w0 own L w' → wpList P (k ++ [o]).toArray Q [o] a' w') (fun a' w' hw' h' => h' w' hw') _ _ _ _ (hm.drawn _) ?_
  have hq : wpQuiet P (k ++ [hush o]).toArray (Mem w0 own L) (fun a' => ∀ w', Mem w0 own L w' → wpList P (k ++ [o]).toArray Q [o] a' w') (k ++ [hush o]) a := by
    clear hX hf hsz
    have hg : (hush o).guard = none := by
      unfold lastB at hB
      simp only [Bool.and_eq_true] at hB
      have hlast := hB.2
      have hget : (k ++ [o]).toArray[(k ++ [o]).toArray.size - 1]? = some o := by simp
      rw [hget] at hlast
      simp only [Bool.and_eq_true] at hlast
      simpa [hush] using hlast.1.2
    have hd : (hush o).dst = none := by
      unfold lastB at hB
      simp only [Bool.and_eq_true] at hB
      have hlast := hB.2
      have hget : (k ++ [o]).toArray[(k ++ [o]).toArray.size - 1]? = some o := by simp
      rw [hget] at hlast
      simp only [Bool.and_eq_true] at hlast
      simpa [hush] using hlast.1.1
    generalize (k ++ [hush o]).toArray = ops at *
    generalize (fun a' : Act => ∀ w', Mem w0 own L w' → wpList P (k ++ [o]).toArray Q [o] a' w') = R at *
    clear hB ho
    induction k generalizing a with
    | nil =>
      show wpQuiet P ops (Mem w0 own L) R [hush o] a
      refine wq_run (v := undef) (by simp [Region.wanted, hg]) (fun _ _ => rfl) ?_
      have : a.put (hush o).dst undef = a := by rw [hd]; rfl
      rw [this]
      exact h
    | cons x k ih =>
      show wpQuiet P ops (Mem w0 own L) R (x :: (k ++ [hush o])) a
      unfold wpQuiet at h ⊢
      split
      · rename_i hw
        rw [if_pos hw] at h
        exact Oper.quiet_mono (fun a' h' => ih h') h
      · rename_i hw
        rw [if_neg hw] at h
        exact ih h
  have := wpAnyQ_lex (C := Mem w0 own L) (md := .any) hX.1 (k ++ [hush o]).toArray.toList 0 (Array.replicate (k ++ [hush o]).toArray.size false) a (by simp) (by simpa using hX.2) (by simpa using hq)
  simpa using this
end
end Go.Proofs.Ytijkmbebfodhdaa

/- (LabA)
  Labels: contracts of label.head, label.Is. A label is (len, bits); its bits are the highest ones of a number of 64.
-/
namespace Go.Proofs.Ytijkmbebfodhdaa
open Go.RowKit
set_option linter.unusedSimpArgs false
set_option linter.unusedVariables false
set_option maxHeartbeats 400000
set_option maxRecDepth 20000
attribute [local irreducible] wpQuiet wpList wpAnyH Calls

noncomputable def labFields : Array Field := match Try.prog.underlying 26 with | some (.struct fs) => fs | _ => #[]
theorem undLabel : Try.prog.underlying 26 = some (.struct labFields) := by kernel_rfl
theorem sizeLabel : (Try.prog.info? 26).map (·.size) = some 2 := by kernel_rfl
theorem zeroLabel : (Try.prog.info? 26).bind (·.zero) = some (.agg #[.int .i64 0, .int .u64 0]) := by kernel_rfl
theorem undInt : Try.prog.underlying 3 = some (.int .i64) := by kernel_rfl
theorem undU64 : Try.prog.underlying 22 = some (.int .u64) := by kernel_rfl
theorem sizeInt : (Try.prog.info? 3).map (·.size) = some 1 := by kernel_rfl
theorem sizeU64 : (Try.prog.info? 22).map (·.size) = some 1 := by kernel_rfl

/-- The n highest of 64 bits. -/
@[irreducible] def hd (v n : Nat) : Nat := v / 2 ^ (64 - n) * 2 ^ (64 - n)
theorem hd_eq (v n : Nat) : hd v n = v / 2 ^ (64 - n) * 2 ^ (64 - n) := by unfold hd; rfl
theorem hd_le (v n : Nat) : hd v n ≤ v := by rw [hd_eq]; exact Nat.div_mul_le_self _ _

theorem shr_all (n : Nat) (h : n ≤ 64) : (18446744073709551615 : Int) / 2 ^ n = ((2 ^ (64 - n) - 1 : Nat) : Int) := by
  have : ∀ n : Fin 65, (18446744073709551615 : Int) / 2 ^ n.1 = ((2 ^ (64 - n.1) - 1 : Nat) : Int) := by decide +kernel
  exact this ⟨n, by omega⟩

theorem and_high (v k : Nat) (hv : v < 2 ^ 64) (hk : k ≤ 64) : v &&& (2 ^ 64 - 1 - (2 ^ k - 1)) = v / 2 ^ k * 2 ^ k := by
  apply Nat.eq_of_testBit_eq
  intro i
  rw [Nat.testBit_and, Nat.testBit_mul_two_pow, Nat.testBit_div_two_pow]
  have hp : 2 ^ k ≤ 2 ^ 64 := Nat.pow_le_pow_right (by omega) hk
  have hp1 : 0 < 2 ^ k := Nat.pow_pos (by omega)
  rw [show 2 ^ 64 - 1 - (2 ^ k - 1) = 2 ^ 64 - ((2 ^ k - 1) + 1) from by omega, Nat.testBit_two_pow_sub_succ (by omega), Nat.testBit_two_pow_sub_one]
  by_cases hi : i < 64
  · by_cases hik : i < k
    · simp [hik, show ¬ k ≤ i from by omega]
    · simp [hi, hik, show k ≤ i from by omega, show i - k + k = i from by omega]
  · have h0 : v.testBit i = false := Nat.testBit_lt_two_pow (Nat.lt_of_lt_of_le hv (Nat.pow_le_pow_right (by omega) (by omega)))
    by_cases hik : k ≤ i
    · simp [h0, hik, show i - k + k = i from by omega]
    · simp [h0, hik]

theorem head_c (v n : Nat) (hb : v < 2 ^ 64) (hn : n ≤ 64) (w : World) :
    Calls Try.prog 57 #[.int .u64 (v : Int), .int .i64 (n : Int)] w fun e w' => e = .returned (.int .u64 ((hd v n : Nat) : Int)) ∧ Ext w w' := by
  have s1 := shr_all n hn
  go_enter Try.func57, Try.ntmps57
  go_wp2_with (first | ((with_reducible show wpList _ _ _ (⟨_, .alloc _, _, _, _, _⟩ :: _) _ _); refine Stop.mk ?_) | ((with_reducible show wpList _ _ _ (⟨_, .box _ _, _, _, _, _⟩ :: _) _ _); refine Stop.mk ?_) | ((with_reducible show wpList _ _ _ (⟨_, .load _ _, _, _, _, _⟩ :: _) _ _); refine Stop.mk ?_) | ((with_reducible show wpList _ _ _ (⟨_, .store _ _ _, _, _, _, _⟩ :: _) _ _); refine Stop.mk ?_) | ((with_reducible show wpList _ _ _ (⟨_, .build _ _, _, _, _, _⟩ :: _) _ _); refine Stop.mk ?_) | ((with_reducible show wpList _ _ _ (⟨_, .buildSlice _ _ _, _, _, _, _⟩ :: _) _ _); refine Stop.mk ?_) | ((with_reducible show wpList _ _ _ (⟨_, .makeSlice _ _ _, _, _, _, _⟩ :: _) _ _); refine Stop.mk ?_) | ((with_reducible show wpList _ _ _ (⟨_, .call ⟨.builtin .append, _, _⟩, _, _, _, _⟩ :: _) _ _); refine Stop.mk ?_) | ((with_reducible show wpList _ _ _ (⟨_, .call ⟨.builtin .copy, _, _⟩, _, _, _, _⟩ :: _) _ _); refine Stop.mk ?_))
  go_ret
  refine ⟨?_, Ext.refl _⟩
  have hp : 2 ^ (64 - n) ≤ 2 ^ 64 := Nat.pow_le_pow_right (by omega) (by omega)
  rw [u64_andNot_nat _ _ hb (by omega), hd_eq, ← and_high v _ hb (by omega)]
  rfl

def isL (len : Int) (b : Nat) : Bool := decide (0 ≤ len ∧ len ≤ 64 ∧ hd b len.toNat = b)
@[irreducible] def labV (len : Int) (b : Nat) : Value := .agg #[.int .i64 len, .int .u64 (b : Int)]
theorem labV_eq (len : Int) (b : Nat) : labV len b = .agg #[.int .i64 len, .int .u64 (b : Int)] := by unfold labV; rfl
theorem labV_cells (len : Int) (b : Nat) : (labV len b).cells = #[.int .i64 len, .int .u64 (b : Int)] := by rw [labV_eq]; rfl

theorem is_c (len : Int) (b : Nat) (hb : b < 2 ^ 64) (w : World) :
    Calls Try.prog 33 #[labV len b] w fun e w' => e = .returned (.bool (isL len b)) ∧ Ext w w' := by
  by_cases h0 : 0 ≤ len
  · by_cases h64 : len ≤ 64
    · obtain ⟨n, rfl⟩ := Int.eq_ofNat_of_zero_le h0
      have hn : n ≤ 64 := by omega
      have e : isL (n : Int) b = (((hd b n : Nat) : Int) == (b : Int)) := by
        unfold isL; rw [Bool.eq_iff_iff]; simp only [decide_eq_true_eq, beq_iff_eq, Int.toNat_natCast]; omega
      rw [e]
      clear e
      go_enter Try.func33, Try.ntmps33
      have hm := Mem.refl w []
      go_wp2_with (first | ((with_reducible show wpList _ _ _ (⟨_, .alloc _, _, _, _, _⟩ :: _) _ _); refine Stop.mk ?_) | ((with_reducible show wpList _ _ _ (⟨_, .box _ _, _, _, _, _⟩ :: _) _ _); refine Stop.mk ?_) | ((with_reducible show wpList _ _ _ (⟨_, .load _ _, _, _, _, _⟩ :: _) _ _); refine Stop.mk ?_) | ((with_reducible show wpList _ _ _ (⟨_, .store _ _ _, _, _, _, _⟩ :: _) _ _); refine Stop.mk ?_) | ((with_reducible show wpList _ _ _ (⟨_, .build _ _, _, _, _, _⟩ :: _) _ _); refine Stop.mk ?_) | ((with_reducible show wpList _ _ _ (⟨_, .buildSlice _ _ _, _, _, _, _⟩ :: _) _ _); refine Stop.mk ?_) | ((with_reducible show wpList _ _ _ (⟨_, .makeSlice _ _ _, _, _, _, _⟩ :: _) _ _); refine Stop.mk ?_) | ((with_reducible show wpList _ _ _ (⟨_, .call ⟨.builtin .append, _, _⟩, _, _, _, _⟩ :: _) _ _); refine Stop.mk ?_) | ((with_reducible show wpList _ _ _ (⟨_, .call ⟨.builtin .copy, _, _⟩, _, _, _, _⟩ :: _) _ _); refine Stop.mk ?_)); refine Stop.go (wl_box (by rfl) rfl (labV_cells _ b) hm ?_); clear hm; intro b1 w1 hm; simp only [Act.put, List.setIfInBounds_toArray, List.set_cons_zero, List.set_cons_succ]; (try simp only [rowOf_set, List.setIfInBounds_toArray, List.set_cons_zero, List.set_cons_succ, Value.cells, Act.eval, Array.getD_eq_getD_getElem?, List.getElem?_toArray, List.getElem?_cons_zero, List.getElem?_cons_succ, Option.getD_some] at hm)
      go_wp2_with (first | ((with_reducible show wpList _ _ _ (⟨_, .alloc _, _, _, _, _⟩ :: _) _ _); refine Stop.mk ?_) | ((with_reducible show wpList _ _ _ (⟨_, .box _ _, _, _, _, _⟩ :: _) _ _); refine Stop.mk ?_) | ((with_reducible show wpList _ _ _ (⟨_, .load _ _, _, _, _, _⟩ :: _) _ _); refine Stop.mk ?_) | ((with_reducible show wpList _ _ _ (⟨_, .store _ _ _, _, _, _, _⟩ :: _) _ _); refine Stop.mk ?_) | ((with_reducible show wpList _ _ _ (⟨_, .build _ _, _, _, _, _⟩ :: _) _ _); refine Stop.mk ?_) | ((with_reducible show wpList _ _ _ (⟨_, .buildSlice _ _ _, _, _, _, _⟩ :: _) _ _); refine Stop.mk ?_) | ((with_reducible show wpList _ _ _ (⟨_, .makeSlice _ _ _, _, _, _, _⟩ :: _) _ _); refine Stop.mk ?_) | ((with_reducible show wpList _ _ _ (⟨_, .call ⟨.builtin .append, _, _⟩, _, _, _, _⟩ :: _) _ _); refine Stop.mk ?_) | ((with_reducible show wpList _ _ _ (⟨_, .call ⟨.builtin .copy, _, _⟩, _, _, _, _⟩ :: _) _ _); refine Stop.mk ?_)); refine wp_quiet_mem (by kernel_rfl) (by kernel_rfl) hm ?_
      repeat (first | (refine wq_skip (by rfl) ?_; (try simp only [Act.put, List.setIfInBounds_toArray, List.set_cons_zero, List.set_cons_succ])) | ((with_reducible show wpQuiet _ _ _ _ (⟨_, .load _ _, _, _, _, _⟩ :: _) _); refine wq_load (i := 0) (by rfl) rfl rfl undLabel rfl (by first | exact sizeLabel | (simp only [rowOf_size]; exact sizeLabel)) ?_; (try simp only [Act.put, List.setIfInBounds_toArray, List.set_cons_zero, List.set_cons_succ]); (try simp only [← idV_eq])) | ((with_reducible show wpQuiet _ _ _ _ (⟨_, .load _ _, _, _, _, _⟩ :: _) _); refine wq_load (i := 1) (by rfl) rfl rfl undLabel rfl (by first | exact sizeLabel | (simp only [rowOf_size]; exact sizeLabel)) ?_; (try simp only [Act.put, List.setIfInBounds_toArray, List.set_cons_zero, List.set_cons_succ]); (try simp only [← idV_eq])) | ((with_reducible show wpQuiet _ _ _ _ (⟨_, .load _ _, _, _, _, _⟩ :: _) _); refine wq_load (i := 2) (by rfl) rfl rfl undLabel rfl (by first | exact sizeLabel | (simp only [rowOf_size]; exact sizeLabel)) ?_; (try simp only [Act.put, List.setIfInBounds_toArray, List.set_cons_zero, List.set_cons_succ]); (try simp only [← idV_eq])) | ((with_reducible show wpQuiet _ _ _ _ (⟨_, .load _ _, _, _, _, _⟩ :: _) _); refine wq_load (i := 3) (by rfl) rfl rfl undLabel rfl (by first | exact sizeLabel | (simp only [rowOf_size]; exact sizeLabel)) ?_; (try simp only [Act.put, List.setIfInBounds_toArray, List.set_cons_zero, List.set_cons_succ]); (try simp only [← idV_eq])) | ((with_reducible show wpQuiet _ _ _ _ (⟨_, .load _ _, _, _, _, _⟩ :: _) _); refine wq_load (i := 4) (by rfl) rfl rfl undLabel rfl (by first | exact sizeLabel | (simp only [rowOf_size]; exact sizeLabel)) ?_; (try simp only [Act.put, List.setIfInBounds_toArray, List.set_cons_zero, List.set_cons_succ]); (try simp only [← idV_eq])) | ((with_reducible show wpQuiet _ _ _ _ (⟨_, .load _ _, _, _, _, _⟩ :: _) _); refine wq_load (i := 5) (by rfl) rfl rfl undLabel rfl (by first | exact sizeLabel | (simp only [rowOf_size]; exact sizeLabel)) ?_; (try simp only [Act.put, List.setIfInBounds_toArray, List.set_cons_zero, List.set_cons_succ]); (try simp only [← idV_eq])) | ((with_reducible show wpQuiet _ _ _ _ (⟨_, .load _ _, _, _, _, _⟩ :: _) _); refine wq_load (i := 6) (by rfl) rfl rfl undLabel rfl (by first | exact sizeLabel | (simp only [rowOf_size]; exact sizeLabel)) ?_; (try simp only [Act.put, List.setIfInBounds_toArray, List.set_cons_zero, List.set_cons_succ]); (try simp only [← idV_eq])) | ((with_reducible show wpQuiet _ _ _ _ (⟨_, .load _ _, _, _, _, _⟩ :: _) _); refine wq_load (i := 7) (by rfl) rfl rfl undLabel rfl (by first | exact sizeLabel | (simp only [rowOf_size]; exact sizeLabel)) ?_; (try simp only [Act.put, List.setIfInBounds_toArray, List.set_cons_zero, List.set_cons_succ]); (try simp only [← idV_eq])) | ((with_reducible show wpQuiet _ _ _ _ (⟨_, .load _ _, _, _, _, _⟩ :: _) _); refine wq_loadCell (i := 0) (by rfl) rfl rfl rfl undInt rfl ?_; (try simp only [List.getElem_toArray, List.getElem_cons_zero, List.getElem_cons_succ, Act.put, List.setIfInBounds_toArray, List.set_cons_zero, List.set_cons_succ])) | ((with_reducible show wpQuiet _ _ _ _ (⟨_, .load _ _, _, _, _, _⟩ :: _) _); refine wq_loadCell (i := 0) (by rfl) rfl rfl rfl undU64 rfl ?_; (try simp only [List.getElem_toArray, List.getElem_cons_zero, List.getElem_cons_succ, Act.put, List.setIfInBounds_toArray, List.set_cons_zero, List.set_cons_succ])) | ((with_reducible show wpQuiet _ _ _ _ (⟨_, .load _ _, _, _, _, _⟩ :: _) _); refine wq_loadCell (i := 1) (by rfl) rfl rfl rfl undInt rfl ?_; (try simp only [List.getElem_toArray, List.getElem_cons_zero, List.getElem_cons_succ, Act.put, List.setIfInBounds_toArray, List.set_cons_zero, List.set_cons_succ])) | ((with_reducible show wpQuiet _ _ _ _ (⟨_, .load _ _, _, _, _, _⟩ :: _) _); refine wq_loadCell (i := 1) (by rfl) rfl rfl rfl undU64 rfl ?_; (try simp only [List.getElem_toArray, List.getElem_cons_zero, List.getElem_cons_succ, Act.put, List.setIfInBounds_toArray, List.set_cons_zero, List.set_cons_succ])) | ((with_reducible show wpQuiet _ _ _ _ (⟨_, .load _ _, _, _, _, _⟩ :: _) _); refine wq_loadCell (i := 2) (by rfl) rfl rfl rfl undInt rfl ?_; (try simp only [List.getElem_toArray, List.getElem_cons_zero, List.getElem_cons_succ, Act.put, List.setIfInBounds_toArray, List.set_cons_zero, List.set_cons_succ])) | ((with_reducible show wpQuiet _ _ _ _ (⟨_, .load _ _, _, _, _, _⟩ :: _) _); refine wq_loadCell (i := 2) (by rfl) rfl rfl rfl undU64 rfl ?_; (try simp only [List.getElem_toArray, List.getElem_cons_zero, List.getElem_cons_succ, Act.put, List.setIfInBounds_toArray, List.set_cons_zero, List.set_cons_succ])) | ((with_reducible show wpQuiet _ _ _ _ (⟨_, .load _ _, _, _, _, _⟩ :: _) _); refine wq_loadCell (i := 3) (by rfl) rfl rfl rfl undInt rfl ?_; (try simp only [List.getElem_toArray, List.getElem_cons_zero, List.getElem_cons_succ, Act.put, List.setIfInBounds_toArray, List.set_cons_zero, List.set_cons_succ])) | ((with_reducible show wpQuiet _ _ _ _ (⟨_, .load _ _, _, _, _, _⟩ :: _) _); refine wq_loadCell (i := 3) (by rfl) rfl rfl rfl undU64 rfl ?_; (try simp only [List.getElem_toArray, List.getElem_cons_zero, List.getElem_cons_succ, Act.put, List.setIfInBounds_toArray, List.set_cons_zero, List.set_cons_succ])) | ((with_reducible show wpQuiet _ _ _ _ (⟨_, .load _ _, _, _, _, _⟩ :: _) _); refine wq_loadCell (i := 4) (by rfl) rfl rfl rfl undInt rfl ?_; (try simp only [List.getElem_toArray, List.getElem_cons_zero, List.getElem_cons_succ, Act.put, List.setIfInBounds_toArray, List.set_cons_zero, List.set_cons_succ])) | ((with_reducible show wpQuiet _ _ _ _ (⟨_, .load _ _, _, _, _, _⟩ :: _) _); refine wq_loadCell (i := 4) (by rfl) rfl rfl rfl undU64 rfl ?_; (try simp only [List.getElem_toArray, List.getElem_cons_zero, List.getElem_cons_succ, Act.put, List.setIfInBounds_toArray, List.set_cons_zero, List.set_cons_succ])) | ((with_reducible show wpQuiet _ _ _ _ (⟨_, .load _ _, _, _, _, _⟩ :: _) _); refine wq_loadCell (i := 5) (by rfl) rfl rfl rfl undInt rfl ?_; (try simp only [List.getElem_toArray, List.getElem_cons_zero, List.getElem_cons_succ, Act.put, List.setIfInBounds_toArray, List.set_cons_zero, List.set_cons_succ])) | ((with_reducible show wpQuiet _ _ _ _ (⟨_, .load _ _, _, _, _, _⟩ :: _) _); refine wq_loadCell (i := 5) (by rfl) rfl rfl rfl undU64 rfl ?_; (try simp only [List.getElem_toArray, List.getElem_cons_zero, List.getElem_cons_succ, Act.put, List.setIfInBounds_toArray, List.set_cons_zero, List.set_cons_succ])) | ((with_reducible show wpQuiet _ _ _ _ (⟨_, .load _ _, _, _, _, _⟩ :: _) _); refine wq_loadCell (i := 6) (by rfl) rfl rfl rfl undInt rfl ?_; (try simp only [List.getElem_toArray, List.getElem_cons_zero, List.getElem_cons_succ, Act.put, List.setIfInBounds_toArray, List.set_cons_zero, List.set_cons_succ])) | ((with_reducible show wpQuiet _ _ _ _ (⟨_, .load _ _, _, _, _, _⟩ :: _) _); refine wq_loadCell (i := 6) (by rfl) rfl rfl rfl undU64 rfl ?_; (try simp only [List.getElem_toArray, List.getElem_cons_zero, List.getElem_cons_succ, Act.put, List.setIfInBounds_toArray, List.set_cons_zero, List.set_cons_succ])) | ((with_reducible show wpQuiet _ _ _ _ (⟨_, .load _ _, _, _, _, _⟩ :: _) _); refine wq_loadCell (i := 7) (by rfl) rfl rfl rfl undInt rfl ?_; (try simp only [List.getElem_toArray, List.getElem_cons_zero, List.getElem_cons_succ, Act.put, List.setIfInBounds_toArray, List.set_cons_zero, List.set_cons_succ])) | ((with_reducible show wpQuiet _ _ _ _ (⟨_, .load _ _, _, _, _, _⟩ :: _) _); refine wq_loadCell (i := 7) (by rfl) rfl rfl rfl undU64 rfl ?_; (try simp only [List.getElem_toArray, List.getElem_cons_zero, List.getElem_cons_succ, Act.put, List.setIfInBounds_toArray, List.set_cons_zero, List.set_cons_succ])) | ((with_reducible show wpQuiet _ _ _ _ (⟨_, .call _, _, _, _, _⟩ :: _) _); refine wq_ask (by rfl) ?_; apply Exists.intro; refine ⟨?_, ?_⟩; (focus (intro w hC; go_simp; first | (go_at_call 57; exact (head_c _ _ hb hn _).mono fun e w' h => ⟨h.1, hC.call h.2⟩))); (try simp only [Act.put, List.setIfInBounds_toArray, List.set_cons_zero, List.set_cons_succ])) | (refine wq_any (by rfl) ?_; apply Exists.intro; refine ⟨?_, ?_⟩; (focus (intro w hC; go_simp; (try with_reducible rfl); done)); (try simp only [Act.put, List.setIfInBounds_toArray, List.set_cons_zero, List.set_cons_succ])))
      refine wpQuiet_nil ?_; clear hm; intro w2 hm
      go_wp2_with (first | ((with_reducible show wpList _ _ _ (⟨_, .alloc _, _, _, _, _⟩ :: _) _ _); refine Stop.mk ?_) | ((with_reducible show wpList _ _ _ (⟨_, .box _ _, _, _, _, _⟩ :: _) _ _); refine Stop.mk ?_) | ((with_reducible show wpList _ _ _ (⟨_, .load _ _, _, _, _, _⟩ :: _) _ _); refine Stop.mk ?_) | ((with_reducible show wpList _ _ _ (⟨_, .store _ _ _, _, _, _, _⟩ :: _) _ _); refine Stop.mk ?_) | ((with_reducible show wpList _ _ _ (⟨_, .build _ _, _, _, _, _⟩ :: _) _ _); refine Stop.mk ?_) | ((with_reducible show wpList _ _ _ (⟨_, .buildSlice _ _ _, _, _, _, _⟩ :: _) _ _); refine Stop.mk ?_) | ((with_reducible show wpList _ _ _ (⟨_, .makeSlice _ _ _, _, _, _, _⟩ :: _) _ _); refine Stop.mk ?_) | ((with_reducible show wpList _ _ _ (⟨_, .call ⟨.builtin .append, _, _⟩, _, _, _, _⟩ :: _) _ _); refine Stop.mk ?_) | ((with_reducible show wpList _ _ _ (⟨_, .call ⟨.builtin .copy, _, _⟩, _, _, _, _⟩ :: _) _ _); refine Stop.mk ?_))
      go_ret
      exact ⟨rfl, hm.ext⟩
    · have e : isL len b = false := by
        unfold isL; rw [decide_eq_false_iff_not]; omega
      rw [e]
      clear e
      have h65 : decide (len ≤ 64) = false := decide_eq_false h64
      go_enter Try.func33, Try.ntmps33
      have hm := Mem.refl w []
      go_wp2_with (first | ((with_reducible show wpList _ _ _ (⟨_, .alloc _, _, _, _, _⟩ :: _) _ _); refine Stop.mk ?_) | ((with_reducible show wpList _ _ _ (⟨_, .box _ _, _, _, _, _⟩ :: _) _ _); refine Stop.mk ?_) | ((with_reducible show wpList _ _ _ (⟨_, .load _ _, _, _, _, _⟩ :: _) _ _); refine Stop.mk ?_) | ((with_reducible show wpList _ _ _ (⟨_, .store _ _ _, _, _, _, _⟩ :: _) _ _); refine Stop.mk ?_) | ((with_reducible show wpList _ _ _ (⟨_, .build _ _, _, _, _, _⟩ :: _) _ _); refine Stop.mk ?_) | ((with_reducible show wpList _ _ _ (⟨_, .buildSlice _ _ _, _, _, _, _⟩ :: _) _ _); refine Stop.mk ?_) | ((with_reducible show wpList _ _ _ (⟨_, .makeSlice _ _ _, _, _, _, _⟩ :: _) _ _); refine Stop.mk ?_) | ((with_reducible show wpList _ _ _ (⟨_, .call ⟨.builtin .append, _, _⟩, _, _, _, _⟩ :: _) _ _); refine Stop.mk ?_) | ((with_reducible show wpList _ _ _ (⟨_, .call ⟨.builtin .copy, _, _⟩, _, _, _, _⟩ :: _) _ _); refine Stop.mk ?_)); refine Stop.go (wl_box (by rfl) rfl (labV_cells _ b) hm ?_); clear hm; intro b1 w1 hm; simp only [Act.put, List.setIfInBounds_toArray, List.set_cons_zero, List.set_cons_succ]; (try simp only [rowOf_set, List.setIfInBounds_toArray, List.set_cons_zero, List.set_cons_succ, Value.cells, Act.eval, Array.getD_eq_getD_getElem?, List.getElem?_toArray, List.getElem?_cons_zero, List.getElem?_cons_succ, Option.getD_some] at hm)
      go_wp2_with (first | ((with_reducible show wpList _ _ _ (⟨_, .alloc _, _, _, _, _⟩ :: _) _ _); refine Stop.mk ?_) | ((with_reducible show wpList _ _ _ (⟨_, .box _ _, _, _, _, _⟩ :: _) _ _); refine Stop.mk ?_) | ((with_reducible show wpList _ _ _ (⟨_, .load _ _, _, _, _, _⟩ :: _) _ _); refine Stop.mk ?_) | ((with_reducible show wpList _ _ _ (⟨_, .store _ _ _, _, _, _, _⟩ :: _) _ _); refine Stop.mk ?_) | ((with_reducible show wpList _ _ _ (⟨_, .build _ _, _, _, _, _⟩ :: _) _ _); refine Stop.mk ?_) | ((with_reducible show wpList _ _ _ (⟨_, .buildSlice _ _ _, _, _, _, _⟩ :: _) _ _); refine Stop.mk ?_) | ((with_reducible show wpList _ _ _ (⟨_, .makeSlice _ _ _, _, _, _, _⟩ :: _) _ _); refine Stop.mk ?_) | ((with_reducible show wpList _ _ _ (⟨_, .call ⟨.builtin .append, _, _⟩, _, _, _, _⟩ :: _) _ _); refine Stop.mk ?_) | ((with_reducible show wpList _ _ _ (⟨_, .call ⟨.builtin .copy, _, _⟩, _, _, _, _⟩ :: _) _ _); refine Stop.mk ?_)); refine wp_quiet_mem (by kernel_rfl) (by kernel_rfl) hm ?_
      repeat (first | (refine wq_skip (by rfl) ?_; (try simp only [Act.put, List.setIfInBounds_toArray, List.set_cons_zero, List.set_cons_succ])) | ((with_reducible show wpQuiet _ _ _ _ (⟨_, .load _ _, _, _, _, _⟩ :: _) _); refine wq_load (i := 0) (by rfl) rfl rfl undLabel rfl (by first | exact sizeLabel | (simp only [rowOf_size]; exact sizeLabel)) ?_; (try simp only [Act.put, List.setIfInBounds_toArray, List.set_cons_zero, List.set_cons_succ]); (try simp only [← idV_eq])) | ((with_reducible show wpQuiet _ _ _ _ (⟨_, .load _ _, _, _, _, _⟩ :: _) _); refine wq_load (i := 1) (by rfl) rfl rfl undLabel rfl (by first | exact sizeLabel | (simp only [rowOf_size]; exact sizeLabel)) ?_; (try simp only [Act.put, List.setIfInBounds_toArray, List.set_cons_zero, List.set_cons_succ]); (try simp only [← idV_eq])) | ((with_reducible show wpQuiet _ _ _ _ (⟨_, .load _ _, _, _, _, _⟩ :: _) _); refine wq_load (i := 2) (by rfl) rfl rfl undLabel rfl (by first | exact sizeLabel | (simp only [rowOf_size]; exact sizeLabel)) ?_; (try simp only [Act.put, List.setIfInBounds_toArray, List.set_cons_zero, List.set_cons_succ]); (try simp only [← idV_eq])) | ((with_reducible show wpQuiet _ _ _ _ (⟨_, .load _ _, _, _, _, _⟩ :: _) _); refine wq_load (i := 3) (by rfl) rfl rfl undLabel rfl (by first | exact sizeLabel | (simp only [rowOf_size]; exact sizeLabel)) ?_; (try simp only [Act.put, List.setIfInBounds_toArray, List.set_cons_zero, List.set_cons_succ]); (try simp only [← idV_eq])) | ((with_reducible show wpQuiet _ _ _ _ (⟨_, .load _ _, _, _, _, _⟩ :: _) _); refine wq_load (i := 4) (by rfl) rfl rfl undLabel rfl (by first | exact sizeLabel | (simp only [rowOf_size]; exact sizeLabel)) ?_; (try simp only [Act.put, List.setIfInBounds_toArray, List.set_cons_zero, List.set_cons_succ]); (try simp only [← idV_eq])) | ((with_reducible show wpQuiet _ _ _ _ (⟨_, .load _ _, _, _, _, _⟩ :: _) _); refine wq_load (i := 5) (by rfl) rfl rfl undLabel rfl (by first | exact sizeLabel | (simp only [rowOf_size]; exact sizeLabel)) ?_; (try simp only [Act.put, List.setIfInBounds_toArray, List.set_cons_zero, List.set_cons_succ]); (try simp only [← idV_eq])) | ((with_reducible show wpQuiet _ _ _ _ (⟨_, .load _ _, _, _, _, _⟩ :: _) _); refine wq_load (i := 6) (by rfl) rfl rfl undLabel rfl (by first | exact sizeLabel | (simp only [rowOf_size]; exact sizeLabel)) ?_; (try simp only [Act.put, List.setIfInBounds_toArray, List.set_cons_zero, List.set_cons_succ]); (try simp only [← idV_eq])) | ((with_reducible show wpQuiet _ _ _ _ (⟨_, .load _ _, _, _, _, _⟩ :: _) _); refine wq_load (i := 7) (by rfl) rfl rfl undLabel rfl (by first | exact sizeLabel | (simp only [rowOf_size]; exact sizeLabel)) ?_; (try simp only [Act.put, List.setIfInBounds_toArray, List.set_cons_zero, List.set_cons_succ]); (try simp only [← idV_eq])) | ((with_reducible show wpQuiet _ _ _ _ (⟨_, .load _ _, _, _, _, _⟩ :: _) _); refine wq_loadCell (i := 0) (by rfl) rfl rfl rfl undInt rfl ?_; (try simp only [List.getElem_toArray, List.getElem_cons_zero, List.getElem_cons_succ, Act.put, List.setIfInBounds_toArray, List.set_cons_zero, List.set_cons_succ])) | ((with_reducible show wpQuiet _ _ _ _ (⟨_, .load _ _, _, _, _, _⟩ :: _) _); refine wq_loadCell (i := 0) (by rfl) rfl rfl rfl undU64 rfl ?_; (try simp only [List.getElem_toArray, List.getElem_cons_zero, List.getElem_cons_succ, Act.put, List.setIfInBounds_toArray, List.set_cons_zero, List.set_cons_succ])) | ((with_reducible show wpQuiet _ _ _ _ (⟨_, .load _ _, _, _, _, _⟩ :: _) _); refine wq_loadCell (i := 1) (by rfl) rfl rfl rfl undInt rfl ?_; (try simp only [List.getElem_toArray, List.getElem_cons_zero, List.getElem_cons_succ, Act.put, List.setIfInBounds_toArray, List.set_cons_zero, List.set_cons_succ])) | ((with_reducible show wpQuiet _ _ _ _ (⟨_, .load _ _, _, _, _, _⟩ :: _) _); refine wq_loadCell (i := 1) (by rfl) rfl rfl rfl undU64 rfl ?_; (try simp only [List.getElem_toArray, List.getElem_cons_zero, List.getElem_cons_succ, Act.put, List.setIfInBounds_toArray, List.set_cons_zero, List.set_cons_succ])) | ((with_reducible show wpQuiet _ _ _ _ (⟨_, .load _ _, _, _, _, _⟩ :: _) _); refine wq_loadCell (i := 2) (by rfl) rfl rfl rfl undInt rfl ?_; (try simp only [List.getElem_toArray, List.getElem_cons_zero, List.getElem_cons_succ, Act.put, List.setIfInBounds_toArray, List.set_cons_zero, List.set_cons_succ])) | ((with_reducible show wpQuiet _ _ _ _ (⟨_, .load _ _, _, _, _, _⟩ :: _) _); refine wq_loadCell (i := 2) (by rfl) rfl rfl rfl undU64 rfl ?_; (try simp only [List.getElem_toArray, List.getElem_cons_zero, List.getElem_cons_succ, Act.put, List.setIfInBounds_toArray, List.set_cons_zero, List.set_cons_succ])) | ((with_reducible show wpQuiet _ _ _ _ (⟨_, .load _ _, _, _, _, _⟩ :: _) _); refine wq_loadCell (i := 3) (by rfl) rfl rfl rfl undInt rfl ?_; (try simp only [List.getElem_toArray, List.getElem_cons_zero, List.getElem_cons_succ, Act.put, List.setIfInBounds_toArray, List.set_cons_zero, List.set_cons_succ])) | ((with_reducible show wpQuiet _ _ _ _ (⟨_, .load _ _, _, _, _, _⟩ :: _) _); refine wq_loadCell (i := 3) (by rfl) rfl rfl rfl undU64 rfl ?_; (try simp only [List.getElem_toArray, List.getElem_cons_zero, List.getElem_cons_succ, Act.put, List.setIfInBounds_toArray, List.set_cons_zero, List.set_cons_succ])) | ((with_reducible show wpQuiet _ _ _ _ (⟨_, .load _ _, _, _, _, _⟩ :: _) _); refine wq_loadCell (i := 4) (by rfl) rfl rfl rfl undInt rfl ?_; (try simp only [List.getElem_toArray, List.getElem_cons_zero, List.getElem_cons_succ, Act.put, List.setIfInBounds_toArray, List.set_cons_zero, List.set_cons_succ])) | ((with_reducible show wpQuiet _ _ _ _ (⟨_, .load _ _, _, _, _, _⟩ :: _) _); refine wq_loadCell (i := 4) (by rfl) rfl rfl rfl undU64 rfl ?_; (try simp only [List.getElem_toArray, List.getElem_cons_zero, List.getElem_cons_succ, Act.put, List.setIfInBounds_toArray, List.set_cons_zero, List.set_cons_succ])) | ((with_reducible show wpQuiet _ _ _ _ (⟨_, .load _ _, _, _, _, _⟩ :: _) _); refine wq_loadCell (i := 5) (by rfl) rfl rfl rfl undInt rfl ?_; (try simp only [List.getElem_toArray, List.getElem_cons_zero, List.getElem_cons_succ, Act.put, List.setIfInBounds_toArray, List.set_cons_zero, List.set_cons_succ])) | ((with_reducible show wpQuiet _ _ _ _ (⟨_, .load _ _, _, _, _, _⟩ :: _) _); refine wq_loadCell (i := 5) (by rfl) rfl rfl rfl undU64 rfl ?_; (try simp only [List.getElem_toArray, List.getElem_cons_zero, List.getElem_cons_succ, Act.put, List.setIfInBounds_toArray, List.set_cons_zero, List.set_cons_succ])) | ((with_reducible show wpQuiet _ _ _ _ (⟨_, .load _ _, _, _, _, _⟩ :: _) _); refine wq_loadCell (i := 6) (by rfl) rfl rfl rfl undInt rfl ?_; (try simp only [List.getElem_toArray, List.getElem_cons_zero, List.getElem_cons_succ, Act.put, List.setIfInBounds_toArray, List.set_cons_zero, List.set_cons_succ])) | ((with_reducible show wpQuiet _ _ _ _ (⟨_, .load _ _, _, _, _, _⟩ :: _) _); refine wq_loadCell (i := 6) (by rfl) rfl rfl rfl undU64 rfl ?_; (try simp only [List.getElem_toArray, List.getElem_cons_zero, List.getElem_cons_succ, Act.put, List.setIfInBounds_toArray, List.set_cons_zero, List.set_cons_succ])) | ((with_reducible show wpQuiet _ _ _ _ (⟨_, .load _ _, _, _, _, _⟩ :: _) _); refine wq_loadCell (i := 7) (by rfl) rfl rfl rfl undInt rfl ?_; (try simp only [List.getElem_toArray, List.getElem_cons_zero, List.getElem_cons_succ, Act.put, List.setIfInBounds_toArray, List.set_cons_zero, List.set_cons_succ])) | ((with_reducible show wpQuiet _ _ _ _ (⟨_, .load _ _, _, _, _, _⟩ :: _) _); refine wq_loadCell (i := 7) (by rfl) rfl rfl rfl undU64 rfl ?_; (try simp only [List.getElem_toArray, List.getElem_cons_zero, List.getElem_cons_succ, Act.put, List.setIfInBounds_toArray, List.set_cons_zero, List.set_cons_succ])) | ((with_reducible show wpQuiet _ _ _ _ (⟨_, .call _, _, _, _, _⟩ :: _) _); refine wq_ask (by rfl) ?_; apply Exists.intro; refine ⟨?_, ?_⟩; (focus (intro w hC; go_simp; first | fail)); (try simp only [Act.put, List.setIfInBounds_toArray, List.set_cons_zero, List.set_cons_succ])) | (refine wq_any (by rfl) ?_; apply Exists.intro; refine ⟨?_, ?_⟩; (focus (intro w hC; go_simp; (try with_reducible rfl); done)); (try simp only [Act.put, List.setIfInBounds_toArray, List.set_cons_zero, List.set_cons_succ])))
      refine wpQuiet_nil ?_; clear hm; intro w2 hm
      go_wp2_with (first | ((with_reducible show wpList _ _ _ (⟨_, .alloc _, _, _, _, _⟩ :: _) _ _); refine Stop.mk ?_) | ((with_reducible show wpList _ _ _ (⟨_, .box _ _, _, _, _, _⟩ :: _) _ _); refine Stop.mk ?_) | ((with_reducible show wpList _ _ _ (⟨_, .load _ _, _, _, _, _⟩ :: _) _ _); refine Stop.mk ?_) | ((with_reducible show wpList _ _ _ (⟨_, .store _ _ _, _, _, _, _⟩ :: _) _ _); refine Stop.mk ?_) | ((with_reducible show wpList _ _ _ (⟨_, .build _ _, _, _, _, _⟩ :: _) _ _); refine Stop.mk ?_) | ((with_reducible show wpList _ _ _ (⟨_, .buildSlice _ _ _, _, _, _, _⟩ :: _) _ _); refine Stop.mk ?_) | ((with_reducible show wpList _ _ _ (⟨_, .makeSlice _ _ _, _, _, _, _⟩ :: _) _ _); refine Stop.mk ?_) | ((with_reducible show wpList _ _ _ (⟨_, .call ⟨.builtin .append, _, _⟩, _, _, _, _⟩ :: _) _ _); refine Stop.mk ?_) | ((with_reducible show wpList _ _ _ (⟨_, .call ⟨.builtin .copy, _, _⟩, _, _, _, _⟩ :: _) _ _); refine Stop.mk ?_))
      go_ret
      exact ⟨rfl, hm.ext⟩
  · have e : isL len b = false := by
      unfold isL; rw [decide_eq_false_iff_not]; omega
    rw [e]
    clear e
    have h1 : decide (0 ≤ len) = false := decide_eq_false h0
    go_enter Try.func33, Try.ntmps33
    have hm := Mem.refl w []
    go_wp2_with (first | ((with_reducible show wpList _ _ _ (⟨_, .alloc _, _, _, _, _⟩ :: _) _ _); refine Stop.mk ?_) | ((with_reducible show wpList _ _ _ (⟨_, .box _ _, _, _, _, _⟩ :: _) _ _); refine Stop.mk ?_) | ((with_reducible show wpList _ _ _ (⟨_, .load _ _, _, _, _, _⟩ :: _) _ _); refine Stop.mk ?_) | ((with_reducible show wpList _ _ _ (⟨_, .store _ _ _, _, _, _, _⟩ :: _) _ _); refine Stop.mk ?_) | ((with_reducible show wpList _ _ _ (⟨_, .build _ _, _, _, _, _⟩ :: _) _ _); refine Stop.mk ?_) | ((with_reducible show wpList _ _ _ (⟨_, .buildSlice _ _ _, _, _, _, _⟩ :: _) _ _); refine Stop.mk ?_) | ((with_reducible show wpList _ _ _ (⟨_, .makeSlice _ _ _, _, _, _, _⟩ :: _) _ _); refine Stop.mk ?_) | ((with_reducible show wpList _ _ _ (⟨_, .call ⟨.builtin .append, _, _⟩, _, _, _, _⟩ :: _) _ _); refine Stop.mk ?_) | ((with_reducible show wpList _ _ _ (⟨_, .call ⟨.builtin .copy, _, _⟩, _, _, _, _⟩ :: _) _ _); refine Stop.mk ?_)); refine Stop.go (wl_box (by rfl) rfl (labV_cells _ b) hm ?_); clear hm; intro b1 w1 hm; simp only [Act.put, List.setIfInBounds_toArray, List.set_cons_zero, List.set_cons_succ]; (try simp only [rowOf_set, List.setIfInBounds_toArray, List.set_cons_zero, List.set_cons_succ, Value.cells, Act.eval, Array.getD_eq_getD_getElem?, List.getElem?_toArray, List.getElem?_cons_zero, List.getElem?_cons_succ, Option.getD_some] at hm)
    go_wp2_with (first | ((with_reducible show wpList _ _ _ (⟨_, .alloc _, _, _, _, _⟩ :: _) _ _); refine Stop.mk ?_) | ((with_reducible show wpList _ _ _ (⟨_, .box _ _, _, _, _, _⟩ :: _) _ _); refine Stop.mk ?_) | ((with_reducible show wpList _ _ _ (⟨_, .load _ _, _, _, _, _⟩ :: _) _ _); refine Stop.mk ?_) | ((with_reducible show wpList _ _ _ (⟨_, .store _ _ _, _, _, _, _⟩ :: _) _ _); refine Stop.mk ?_) | ((with_reducible show wpList _ _ _ (⟨_, .build _ _, _, _, _, _⟩ :: _) _ _); refine Stop.mk ?_) | ((with_reducible show wpList _ _ _ (⟨_, .buildSlice _ _ _, _, _, _, _⟩ :: _) _ _); refine Stop.mk ?_) | ((with_reducible show wpList _ _ _ (⟨_, .makeSlice _ _ _, _, _, _, _⟩ :: _) _ _); refine Stop.mk ?_) | ((with_reducible show wpList _ _ _ (⟨_, .call ⟨.builtin .append, _, _⟩, _, _, _, _⟩ :: _) _ _); refine Stop.mk ?_) | ((with_reducible show wpList _ _ _ (⟨_, .call ⟨.builtin .copy, _, _⟩, _, _, _, _⟩ :: _) _ _); refine Stop.mk ?_)); refine wp_quiet_mem (by kernel_rfl) (by kernel_rfl) hm ?_
    repeat (first | (refine wq_skip (by rfl) ?_; (try simp only [Act.put, List.setIfInBounds_toArray, List.set_cons_zero, List.set_cons_succ])) | ((with_reducible show wpQuiet _ _ _ _ (⟨_, .load _ _, _, _, _, _⟩ :: _) _); refine wq_load (i := 0) (by rfl) rfl rfl undLabel rfl (by first | exact sizeLabel | (simp only [rowOf_size]; exact sizeLabel)) ?_; (try simp only [Act.put, List.setIfInBounds_toArray, List.set_cons_zero, List.set_cons_succ]); (try simp only [← idV_eq])) | ((with_reducible show wpQuiet _ _ _ _ (⟨_, .load _ _, _, _, _, _⟩ :: _) _); refine wq_load (i := 1) (by rfl) rfl rfl undLabel rfl (by first | exact sizeLabel | (simp only [rowOf_size]; exact sizeLabel)) ?_; (try simp only [Act.put, List.setIfInBounds_toArray, List.set_cons_zero, List.set_cons_succ]); (try simp only [← idV_eq])) | ((with_reducible show wpQuiet _ _ _ _ (⟨_, .load _ _, _, _, _, _⟩ :: _) _); refine wq_load (i := 2) (by rfl) rfl rfl undLabel rfl (by first | exact sizeLabel | (simp only [rowOf_size]; exact sizeLabel)) ?_; (try simp only [Act.put, List.setIfInBounds_toArray, List.set_cons_zero, List.set_cons_succ]); (try simp only [← idV_eq])) | ((with_reducible show wpQuiet _ _ _ _ (⟨_, .load _ _, _, _, _, _⟩ :: _) _); refine wq_load (i := 3) (by rfl) rfl rfl undLabel rfl (by first | exact sizeLabel | (simp only [rowOf_size]; exact sizeLabel)) ?_; (try simp only [Act.put, List.setIfInBounds_toArray, List.set_cons_zero, List.set_cons_succ]); (try simp only [← idV_eq])) | ((with_reducible show wpQuiet _ _ _ _ (⟨_, .load _ _, _, _, _, _⟩ :: _) _); refine wq_load (i := 4) (by rfl) rfl rfl undLabel rfl (by first | exact sizeLabel | (simp only [rowOf_size]; exact sizeLabel)) ?_; (try simp only [Act.put, List.setIfInBounds_toArray, List.set_cons_zero, List.set_cons_succ]); (try simp only [← idV_eq])) | ((with_reducible show wpQuiet _ _ _ _ (⟨_, .load _ _, _, _, _, _⟩ :: _) _); refine wq_load (i := 5) (by rfl) rfl rfl undLabel rfl (by first | exact sizeLabel | (simp only [rowOf_size]; exact sizeLabel)) ?_; (try simp only [Act.put, List.setIfInBounds_toArray, List.set_cons_zero, List.set_cons_succ]); (try simp only [← idV_eq])) | ((with_reducible show wpQuiet _ _ _ _ (⟨_, .load _ _, _, _, _, _⟩ :: _) _); refine wq_load (i := 6) (by rfl) rfl rfl undLabel rfl (by first | exact sizeLabel | (simp only [rowOf_size]; exact sizeLabel)) ?_; (try simp only [Act.put, List.setIfInBounds_toArray, List.set_cons_zero, List.set_cons_succ]); (try simp only [← idV_eq])) | ((with_reducible show wpQuiet _ _ _ _ (⟨_, .load _ _, _, _, _, _⟩ :: _) _); refine wq_load (i := 7) (by rfl) rfl rfl undLabel rfl (by first | exact sizeLabel | (simp only [rowOf_size]; exact sizeLabel)) ?_; (try simp only [Act.put, List.setIfInBounds_toArray, List.set_cons_zero, List.set_cons_succ]); (try simp only [← idV_eq])) | ((with_reducible show wpQuiet _ _ _ _ (⟨_, .load _ _, _, _, _, _⟩ :: _) _); refine wq_loadCell (i := 0) (by rfl) rfl rfl rfl undInt rfl ?_; (try simp only [List.getElem_toArray, List.getElem_cons_zero, List.getElem_cons_succ, Act.put, List.setIfInBounds_toArray, List.set_cons_zero, List.set_cons_succ])) | ((with_reducible show wpQuiet _ _ _ _ (⟨_, .load _ _, _, _, _, _⟩ :: _) _); refine wq_loadCell (i := 0) (by rfl) rfl rfl rfl undU64 rfl ?_; (try simp only [List.getElem_toArray, List.getElem_cons_zero, List.getElem_cons_succ, Act.put, List.setIfInBounds_toArray, List.set_cons_zero, List.set_cons_succ])) | ((with_reducible show wpQuiet _ _ _ _ (⟨_, .load _ _, _, _, _, _⟩ :: _) _); refine wq_loadCell (i := 1) (by rfl) rfl rfl rfl undInt rfl ?_; (try simp only [List.getElem_toArray, List.getElem_cons_zero, List.getElem_cons_succ, Act.put, List.setIfInBounds_toArray, List.set_cons_zero, List.set_cons_succ])) | ((with_reducible show wpQuiet _ _ _ _ (⟨_, .load _ _, _, _, _, _⟩ :: _) _); refine wq_loadCell (i := 1) (by rfl) rfl rfl rfl undU64 rfl ?_; (try simp only [List.getElem_toArray, List.getElem_cons_zero, List.getElem_cons_succ, Act.put, List.setIfInBounds_toArray, List.set_cons_zero, List.set_cons_succ])) | ((with_reducible show wpQuiet _ _ _ _ (⟨_, .load _ _, _, _, _, _⟩ :: _) _); refine wq_loadCell (i := 2) (by rfl) rfl rfl rfl undInt rfl ?_; (try simp only [List.getElem_toArray, List.getElem_cons_zero, List.getElem_cons_succ, Act.put, List.setIfInBounds_toArray, List.set_cons_zero, List.set_cons_succ])) | ((with_reducible show wpQuiet _ _ _ _ (⟨_, .load _ _, _, _, _, _⟩ :: _) _); refine wq_loadCell (i := 2) (by rfl) rfl rfl rfl undU64 rfl ?_; (try simp only [List.getElem_toArray, List.getElem_cons_zero, List.getElem_cons_succ, Act.put, List.setIfInBounds_toArray, List.set_cons_zero, List.set_cons_succ])) | ((with_reducible show wpQuiet _ _ _ _ (⟨_, .load _ _, _, _, _, _⟩ :: _) _); refine wq_loadCell (i := 3) (by rfl) rfl rfl rfl undInt rfl ?_; (try simp only [List.getElem_toArray, List.getElem_cons_zero, List.getElem_cons_succ, Act.put, List.setIfInBounds_toArray, List.set_cons_zero, List.set_cons_succ])) | ((with_reducible show wpQuiet _ _ _ _ (⟨_, .load _ _, _, _, _, _⟩ :: _) _); refine wq_loadCell (i := 3) (by rfl) rfl rfl rfl undU64 rfl ?_; (try simp only [List.getElem_toArray, List.getElem_cons_zero, List.getElem_cons_succ, Act.put, List.setIfInBounds_toArray, List.set_cons_zero, List.set_cons_succ])) | ((with_reducible show wpQuiet _ _ _ _ (⟨_, .load _ _, _, _, _, _⟩ :: _) _); refine wq_loadCell (i := 4) (by rfl) rfl rfl rfl undInt rfl ?_; (try simp only [List.getElem_toArray, List.getElem_cons_zero, List.getElem_cons_succ, Act.put, List.setIfInBounds_toArray, List.set_cons_zero, List.set_cons_succ])) | ((with_reducible show wpQuiet _ _ _ _ (⟨_, .load _ _, _, _, _, _⟩ :: _) _); refine wq_loadCell (i := 4) (by rfl) rfl rfl rfl undU64 rfl ?_; (try simp only [List.getElem_toArray, List.getElem_cons_zero, List.getElem_cons_succ, Act.put, List.setIfInBounds_toArray, List.set_cons_zero, List.set_cons_succ])) | ((with_reducible show wpQuiet _ _ _ _ (⟨_, .load _ _, _, _, _, _⟩ :: _) _); refine wq_loadCell (i := 5) (by rfl) rfl rfl rfl undInt rfl ?_; (try simp only [List.getElem_toArray, List.getElem_cons_zero, List.getElem_cons_succ, Act.put, List.setIfInBounds_toArray, List.set_cons_zero, List.set_cons_succ])) | ((with_reducible show wpQuiet _ _ _ _ (⟨_, .load _ _, _, _, _, _⟩ :: _) _); refine wq_loadCell (i := 5) (by rfl) rfl rfl rfl undU64 rfl ?_; (try simp only [List.getElem_toArray, List.getElem_cons_zero, List.getElem_cons_succ, Act.put, List.setIfInBounds_toArray, List.set_cons_zero, List.set_cons_succ])) | ((with_reducible show wpQuiet _ _ _ _ (⟨_, .load _ _, _, _, _, _⟩ :: _) _); refine wq_loadCell (i := 6) (by rfl) rfl rfl rfl undInt rfl ?_; (try simp only [List.getElem_toArray, List.getElem_cons_zero, List.getElem_cons_succ, Act.put, List.setIfInBounds_toArray, List.set_cons_zero, List.set_cons_succ])) | ((with_reducible show wpQuiet _ _ _ _ (⟨_, .load _ _, _, _, _, _⟩ :: _) _); refine wq_loadCell (i := 6) (by rfl) rfl rfl rfl undU64 rfl ?_; (try simp only [List.getElem_toArray, List.getElem_cons_zero, List.getElem_cons_succ, Act.put, List.setIfInBounds_toArray, List.set_cons_zero, List.set_cons_succ])) | ((with_reducible show wpQuiet _ _ _ _ (⟨_, .load _ _, _, _, _, _⟩ :: _) _); refine wq_loadCell (i := 7) (by rfl) rfl rfl rfl undInt rfl ?_; (try simp only [List.getElem_toArray, List.getElem_cons_zero, List.getElem_cons_succ, Act.put, List.setIfInBounds_toArray, List.set_cons_zero, List.set_cons_succ])) | ((with_reducible show wpQuiet _ _ _ _ (⟨_, .load _ _, _, _, _, _⟩ :: _) _); refine wq_loadCell (i := 7) (by rfl) rfl rfl rfl undU64 rfl ?_; (try simp only [List.getElem_toArray, List.getElem_cons_zero, List.getElem_cons_succ, Act.put, List.setIfInBounds_toArray, List.set_cons_zero, List.set_cons_succ])) | ((with_reducible show wpQuiet _ _ _ _ (⟨_, .call _, _, _, _, _⟩ :: _) _); refine wq_ask (by rfl) ?_; apply Exists.intro; refine ⟨?_, ?_⟩; (focus (intro w hC; go_simp; first | fail)); (try simp only [Act.put, List.setIfInBounds_toArray, List.set_cons_zero, List.set_cons_succ])) | (refine wq_any (by rfl) ?_; apply Exists.intro; refine ⟨?_, ?_⟩; (focus (intro w hC; go_simp; (try with_reducible rfl); done)); (try simp only [Act.put, List.setIfInBounds_toArray, List.set_cons_zero, List.set_cons_succ])))
    refine wpQuiet_nil ?_; clear hm; intro w2 hm
    go_wp2_with (first | ((with_reducible show wpList _ _ _ (⟨_, .alloc _, _, _, _, _⟩ :: _) _ _); refine Stop.mk ?_) | ((with_reducible show wpList _ _ _ (⟨_, .box _ _, _, _, _, _⟩ :: _) _ _); refine Stop.mk ?_) | ((with_reducible show wpList _ _ _ (⟨_, .load _ _, _, _, _, _⟩ :: _) _ _); refine Stop.mk ?_) | ((with_reducible show wpList _ _ _ (⟨_, .store _ _ _, _, _, _, _⟩ :: _) _ _); refine Stop.mk ?_) | ((with_reducible show wpList _ _ _ (⟨_, .build _ _, _, _, _, _⟩ :: _) _ _); refine Stop.mk ?_) | ((with_reducible show wpList _ _ _ (⟨_, .buildSlice _ _ _, _, _, _, _⟩ :: _) _ _); refine Stop.mk ?_) | ((with_reducible show wpList _ _ _ (⟨_, .makeSlice _ _ _, _, _, _, _⟩ :: _) _ _); refine Stop.mk ?_) | ((with_reducible show wpList _ _ _ (⟨_, .call ⟨.builtin .append, _, _⟩, _, _, _, _⟩ :: _) _ _); refine Stop.mk ?_) | ((with_reducible show wpList _ _ _ (⟨_, .call ⟨.builtin .copy, _, _⟩, _, _, _, _⟩ :: _) _ _); refine Stop.mk ?_))
    go_ret
    exact ⟨rfl, hm.ext⟩

/-- A right label. -/
theorem isL_iff (len : Int) (b : Nat) : isL len b = true ↔ 0 ≤ len ∧ len ≤ 64 ∧ hd b len.toNat = b := by unfold isL; exact decide_eq_true_iff
theorem isL_nat (len : Int) (b : Nat) (h : isL len b = true) : ∃ n : Nat, len = (n : Int) ∧ n ≤ 64 ∧ hd b n = b := by
  obtain ⟨h0, h1, h2⟩ := (isL_iff len b).1 h
  exact ⟨len.toNat, by omega, by omega, h2⟩
end Go.Proofs.Ytijkmbebfodhdaa

/- (LabR)
  Labels: equality.
-/
namespace Go.Proofs.Ytijkmbebfodhdaa
open Go.RowKit
set_option linter.unusedSimpArgs false
set_option linter.unusedVariables false
set_option maxHeartbeats 400000
set_option maxRecDepth 20000

def eqLab (l : Int) (b : Nat) (l' : Int) (b' : Nat) : Bool := l == l' && b == b'
theorem run_equalL (l l' : Int) (b b' : Nat) (w : World) : (Op.equalIn 10000 26 (.agg #[.int .i64 l, .int .u64 (b : Int)]) (.agg #[.int .i64 l', .int .u64 (b' : Int)])).run Try.prog w =
    .ok (eqLab l b l' b') w := by
  go_simp
  unfold eqLab
  by_cases h1 : l = l' <;> by_cases h2 : b = b' <;> simp [h1, h2, Int.natCast_inj]
@[go_sem] theorem run_eqlL (l l' : Int) (b b' : Nat) (w : World) : (binOp .eql 26 (labV l b) (labV l' b')).run Try.prog w = .ok (.bool (eqLab l b l' b')) w := by
  rw [labV_eq, labV_eq, run_eql_struct, run_equalL]; rfl
@[go_sem] theorem run_guardL (op : BinOp) (x y : Operand) (l l' : Int) (b b' : Nat) (w : World) : (eqGuard op 26 x y (labV l b) (labV l' b')).run Try.prog w = .ok () w := by
  rw [labV_eq, labV_eq]
  exact run_eqGuard_agg w op _ x y _ _ (by kernel_rfl)
end Go.Proofs.Ytijkmbebfodhdaa

/- (Mem4)
  The symbolic heap, continued: a variable of more cells that lies inside a block.
-/
namespace Go.Proofs.Ytijkmbebfodhdaa
open Go.RowKit
set_option linter.unusedSimpArgs false
set_option linter.unusedVariables false
section
variable {P : Program} {ops : Array Oper} {Q : Exit → Act → World → Prop} {rest : List Oper} {a : Act} {w0 w : World} {own : List Nat} {L : List (Nat × Obj)}
  {dst : Option Tmp} {ty : TypeId} {pos : String} {aft : Array Edge} {gd : Option (Nat × Bool)}

theorem Mem.range (hm : Mem w0 own L w) {i b off : Nat} {cs : Array Value} {U : TypeId} {fr : Nat × Nat} (hL : L[i]? = some (b, .cells cs U fr)) {vs : List Value}
    (hv : ∀ j v, vs[j]? = some v → cs[off + j]? = some v) : w.rangeAt b off vs := fun j v h => by
  rw [hm.cell hL]; exact hv j v h

theorem wl_loadMid {T U : TypeId} {x : Operand} {b i off : Nat} {cs : Array Value} {vs : List Value} {fr : Nat × Nat} {d : TypeDesc} (hw : Region.wanted ⟨dst, .load T x, ty, pos, aft, gd⟩ (yielded ops a.tmps) = true)
    (hm : Mem w0 own L w) (hL : L[i]? = some (b, .cells cs U fr)) (hx : a.eval x = .pointer (some ⟨b, off, none⟩)) (hv : ∀ j v, vs[j]? = some v → cs[off + j]? = some v)
    (hu : P.underlying T = some d) (hd : d.isRow = true) (hi : (P.info? T).map (·.size) = some vs.length)
    (h : wpList P ops Q rest (a.put dst (.agg vs.toArray)) w) : wpList P ops Q (⟨dst, .load T x, ty, pos, aft, gd⟩ :: rest) a w :=
  wl_op hw fun K hK => wp_load_mid T x rfl b off hx vs d (hm.range hL hv) hu hd hi (hK _ _ h)

theorem wl_buildSlice {T E : TypeId} {sz bytes : Nat} {z : Value} {len : Nat} {parts : Array (Nat × Operand)} {ps : List (Nat × Value)} {cells : Array Value} (hw : Region.wanted ⟨dst, .buildSlice T len parts, ty, pos, aft, gd⟩ (yielded ops a.tmps) = true)
    (hm : Mem w0 own L w) (hel : El P T E sz bytes z) (h0 : len * sz ≠ 0) (hb : len * sz ≤ 16777216)
    (hp : (parts.map fun (i, x) => (i, a.eval x)).toList = ps) (hc : Instr.fill (fun i => some (i * sz, sz)) ((Array.range (len * sz)).map fun i => z.cells[i % z.cells.size]!) ps = some cells)
    (h : ∀ g w', Mem w0 own ((g, .cells cells E (0, 0)) :: L) w' → wpList P ops Q rest (a.put dst (.slice (some ⟨g, 0, none⟩) len len)) w') : wpList P ops Q (⟨dst, .buildSlice T len parts, ty, pos, aft, gd⟩ :: rest) a w :=
  wl_op hw fun K hK => ow_buildSlice hm hel h0 hb hp hc fun g w' hm' => hK _ _ (h g w' hm')
end
end Go.Proofs.Ytijkmbebfodhdaa

/- (Mem6)
  The symbolic heap, continued: where a block stands in the list.
-/
namespace Go.Proofs.Ytijkmbebfodhdaa
open Go.RowKit
set_option linter.unusedVariables false
section
variable {p0 p1 p2 p3 p4 p5 p6 p7 p8 p9 p : Nat × Obj} {L : List (Nat × Obj)}
theorem at0 : (p :: L)[0]? = some p := rfl
theorem at1 : (p0 :: p :: L)[1]? = some p := rfl
theorem at2 : (p0 :: p1 :: p :: L)[2]? = some p := rfl
theorem at3 : (p0 :: p1 :: p2 :: p :: L)[3]? = some p := rfl
theorem at4 : (p0 :: p1 :: p2 :: p3 :: p :: L)[4]? = some p := rfl
theorem at5 : (p0 :: p1 :: p2 :: p3 :: p4 :: p :: L)[5]? = some p := rfl
theorem at6 : (p0 :: p1 :: p2 :: p3 :: p4 :: p5 :: p :: L)[6]? = some p := rfl
theorem at7 : (p0 :: p1 :: p2 :: p3 :: p4 :: p5 :: p6 :: p :: L)[7]? = some p := rfl
theorem at8 : (p0 :: p1 :: p2 :: p3 :: p4 :: p5 :: p6 :: p7 :: p :: L)[8]? = some p := rfl
theorem at9 : (p0 :: p1 :: p2 :: p3 :: p4 :: p5 :: p6 :: p7 :: p8 :: p :: L)[9]? = some p := rfl
end
/-! Short names of list laws, and the heap's laws with their plain premises found by themselves. -/
section
variable {α : Type}
theorem k1 (l : List α) (i : Nat) (x : α) : l.toArray.setIfInBounds i x = (l.set i x).toArray := List.setIfInBounds_toArray _ _ _
theorem k2 (x y : α) (l : List α) : (x :: l).set 0 y = y :: l := rfl
theorem k4 {xs : List α} {i : Nat} (h : i < xs.toArray.size) : xs.toArray[i] = xs[i]'(by simpa using h) := List.getElem_toArray h
theorem k5 {x : α} {l : List α} {h : 0 < (x :: l).length} : getElem (x :: l) 0 h = x := rfl
theorem k6 {x : α} {l : List α} {i : Nat} {h : i + 1 < (x :: l).length} : getElem (x :: l) (i + 1) h = getElem l i (Nat.lt_of_succ_lt_succ h) := rfl
theorem k7 (xs : Array α) (i : Nat) (d : α) : xs.getD i d = xs[i]?.getD d := Array.getD_eq_getD_getElem? ..
theorem k8 (xs : List α) (i : Nat) : xs.toArray[i]? = xs[i]? := List.getElem?_toArray
theorem k9 (x : α) (l : List α) : (x :: l)[0]? = some x := rfl
theorem kA (x : α) (l : List α) (i : Nat) : (x :: l)[i + 1]? = l[i]? := rfl
theorem k3 (x y : α) (l : List α) (n : Nat) : (x :: l).set (n + 1) y = x :: l.set n y := rfl
end
section
open Region
variable {P : Program} {ops : Array Oper} {Q : Exit → Act → World → Prop} {rest : List Oper} {a : Act} {w0 w : World} {own : List Nat} {L : List (Nat × Obj)}
  {dst : Option Tmp} {ty : TypeId} {pos : String} {aft : Array Edge} {gd : Option (Nat × Bool)}
theorem stAl {T : TypeId} (h : Stop (wpList P ops Q (⟨dst, .alloc T, ty, pos, aft, gd⟩ :: rest) a w)) : wpList P ops Q (⟨dst, .alloc T, ty, pos, aft, gd⟩ :: rest) a w := Stop.mk h
theorem stBo {T : TypeId} {x : Operand} (h : Stop (wpList P ops Q (⟨dst, .box T x, ty, pos, aft, gd⟩ :: rest) a w)) : wpList P ops Q (⟨dst, .box T x, ty, pos, aft, gd⟩ :: rest) a w := Stop.mk h
theorem stLo {T : TypeId} {x : Operand} (h : Stop (wpList P ops Q (⟨dst, .load T x, ty, pos, aft, gd⟩ :: rest) a w)) : wpList P ops Q (⟨dst, .load T x, ty, pos, aft, gd⟩ :: rest) a w := Stop.mk h
theorem stSo {T : TypeId} {x y : Operand} (h : Stop (wpList P ops Q (⟨dst, .store T x y, ty, pos, aft, gd⟩ :: rest) a w)) : wpList P ops Q (⟨dst, .store T x y, ty, pos, aft, gd⟩ :: rest) a w := Stop.mk h
theorem stBu {T : TypeId} {p : Array (Nat × Operand)} (h : Stop (wpList P ops Q (⟨dst, .build T p, ty, pos, aft, gd⟩ :: rest) a w)) : wpList P ops Q (⟨dst, .build T p, ty, pos, aft, gd⟩ :: rest) a w := Stop.mk h
theorem stBs {T : TypeId} {n : Nat} {p : Array (Nat × Operand)} (h : Stop (wpList P ops Q (⟨dst, .buildSlice T n p, ty, pos, aft, gd⟩ :: rest) a w)) : wpList P ops Q (⟨dst, .buildSlice T n p, ty, pos, aft, gd⟩ :: rest) a w := Stop.mk h
theorem stMs {T : TypeId} {x y : Operand} (h : Stop (wpList P ops Q (⟨dst, .makeSlice T x y, ty, pos, aft, gd⟩ :: rest) a w)) : wpList P ops Q (⟨dst, .makeSlice T x y, ty, pos, aft, gd⟩ :: rest) a w := Stop.mk h
theorem stAp {p : Array Operand} {q : Array TypeId} (h : Stop (wpList P ops Q (⟨dst, .call ⟨.builtin .append, p, q⟩, ty, pos, aft, gd⟩ :: rest) a w)) : wpList P ops Q (⟨dst, .call ⟨.builtin .append, p, q⟩, ty, pos, aft, gd⟩ :: rest) a w := Stop.mk h
theorem stCo {p : Array Operand} {q : Array TypeId} (h : Stop (wpList P ops Q (⟨dst, .call ⟨.builtin .copy, p, q⟩, ty, pos, aft, gd⟩ :: rest) a w)) : wpList P ops Q (⟨dst, .call ⟨.builtin .copy, p, q⟩, ty, pos, aft, gd⟩ :: rest) a w := Stop.mk h
theorem wlA {T : TypeId} {z : Value} {cs : Array Value} (hw : Region.wanted ⟨dst, .alloc T, ty, pos, aft, gd⟩ (yielded ops a.tmps) = true := by rfl) (hz : (P.info? T).bind (·.zero) = some z) (hc : z.cells = cs := by rfl) (hm : Mem w0 own L w)
    (h : ∀ b w', Mem w0 own ((b, .cells cs T) :: L) w' → wpList P ops Q rest (a.put dst (.pointer (some ⟨b, 0, none⟩))) w') :
    wpList P ops Q (⟨dst, .alloc T, ty, pos, aft, gd⟩ :: rest) a w := wl_alloc hw hz hc hm h
theorem wlL {T U : TypeId} {x : Operand} {b i : Nat} {cs : Array Value} {fr : Nat × Nat} {d : TypeDesc} (hw : Region.wanted ⟨dst, .load T x, ty, pos, aft, gd⟩ (yielded ops a.tmps) = true := by rfl) (hm : Mem w0 own L w) (hx : a.eval x = .pointer (some ⟨b, 0, none⟩) := by rfl) (hL : L[i]? = some (b, .cells cs U fr) := by with_reducible first | exact at0 | exact at1 | exact at2 | exact at3 | exact at4 | exact at5 | exact at6 | exact at7 | exact at8 | exact at9)
    (hu : P.underlying T = some d) (hd : (match d with | .struct _ | .array _ _ => true | _ => false) = true := by rfl) (hi : (P.info? T).map (·.size) = some cs.size)
    (h : wpList P ops Q rest (a.put dst (.agg cs)) w) : wpList P ops Q (⟨dst, .load T x, ty, pos, aft, gd⟩ :: rest) a w := wl_load hw hm hL hx hu hd hi h
theorem wlS {T U : TypeId} {x y : Operand} {v : Value} {b i : Nat} {cs cs' : Array Value} (hw : Region.wanted ⟨dst, .store T x y, ty, pos, aft, gd⟩ (yielded ops a.tmps) = true := by rfl) (hm : Mem w0 own L w) (hx : a.eval x = .pointer (some ⟨b, 0, none⟩) := by rfl) (hy : a.eval y = v := by rfl) (hL : L[i]? = some (b, .cells cs U (0, 0)) := by with_reducible first | exact at0 | exact at1 | exact at2 | exact at3 | exact at4 | exact at5 | exact at6 | exact at7 | exact at8 | exact at9) (hv : v = .agg cs')
    (hi : (P.info? T).map (·.size) = some cs'.size) (hs : cs.size = cs'.size) (h1 : cs'.all (·.oneCell') = true := by first | rfl | (simp only [List.size_toArray, List.length_cons, List.all_toArray', List.all_cons, List.all_nil, Value.oneCell', Bool.and_true, Bool.and_self]; done) | (simp [Value.oneCell']; done) | exact rowOf_one _ _ (fun _ _ => rfl) | (exact rowOf_one _ _ (by intro i _; repeat (first | rfl | split))))
    (h : ∀ w', Mem w0 own (L.set i (b, .cells cs' U (0, 0))) w' → wpList P ops Q rest (a.put dst undef) w') : wpList P ops Q (⟨dst, .store T x y, ty, pos, aft, gd⟩ :: rest) a w := wl_store hw hm hL hx hy hv hi hs h1 h
theorem wlSC {T U : TypeId} {x y : Operand} {b i off : Nat} {cs : Array Value} {v : Value} (hw : Region.wanted ⟨dst, .store T x y, ty, pos, aft, gd⟩ (yielded ops a.tmps) = true := by rfl) (hm : Mem w0 own L w) (hx : a.eval x = .pointer (some ⟨b, off, none⟩) := by rfl) (hy : a.eval y = v := by rfl) (hL : L[i]? = some (b, .cells cs U (0, 0)) := by with_reducible first | exact at0 | exact at1 | exact at2 | exact at3 | exact at4 | exact at5 | exact at6 | exact at7 | exact at8 | exact at9)
    (h1 : v.oneCell' = true := by rfl) (hi : (P.info? T).map (·.size) = some 1) (ho : off < cs.size)
    (h : ∀ w', Mem w0 own (L.set i (b, .cells (cs.setIfInBounds off v) U (0, 0))) w' → wpList P ops Q rest (a.put dst undef) w') : wpList P ops Q (⟨dst, .store T x y, ty, pos, aft, gd⟩ :: rest) a w := wl_storeCell hw hm hL hx hy h1 hi ho h
theorem wlLC {T U : TypeId} {x : Operand} {b i off : Nat} {cs : Array Value} {v : Value} {fr : Nat × Nat} {d : TypeDesc} (hw : Region.wanted ⟨dst, .load T x, ty, pos, aft, gd⟩ (yielded ops a.tmps) = true := by rfl) (hm : Mem w0 own L w) (hx : a.eval x = .pointer (some ⟨b, off, none⟩) := by rfl) (hL : L[i]? = some (b, .cells cs U fr) := by with_reducible first | exact at0 | exact at1 | exact at2 | exact at3 | exact at4 | exact at5 | exact at6 | exact at7 | exact at8 | exact at9)
    (hv : cs[off]? = some v := by rfl) (hu : P.underlying T = some d) (hd : (match d with | .struct _ | .array _ _ => true | _ => false) = false := by rfl)
    (h : wpList P ops Q rest (a.put dst v) w) : wpList P ops Q (⟨dst, .load T x, ty, pos, aft, gd⟩ :: rest) a w := wl_loadCell hw hm hL hx hv hu hd h
variable {S : World → Prop} {md : Region.Mode} {fuel : Nat} {listed : Array Bool} {i : Nat} {oi : Oper}
theorem whS {v : Value} (hi : ops[i]? = some oi := by rfl) (hs : Region.noSelect ops = true := by kernel_rfl) (hf : Region.free md ops listed i = true := by kernel_rfl) (hr : (Region.ready md ops listed).contains i = true := by kernel_rfl)
    (hQ : ∀ c v (a : Act) w, Q (.panic c) (a.put oi.dst v) w → Q (.panic c) a w := by exact fun _ _ _ _ h => h) (hw : Region.wanted oi (yielded ops a.tmps) = true := by rfl) (hS : S w)
    (h1 : ∀ w, S w → (execOp a.eval oi).run P w = .ok (.value v) w := by intro w hC; go_simp; try with_reducible rfl) (h : wpAnyH P md ops Q S fuel (listed.setIfInBounds i true) (a.put oi.dst v) w) : wpAnyH P md ops Q S (fuel + 1) listed a w :=
  wh_any hi hs hf hr hQ hw hS ⟨v, h1, h⟩
theorem whK (hi : ops[i]? = some oi := by rfl) (hs : Region.noSelect ops = true := by kernel_rfl) (hf : Region.free md ops listed i = true := by kernel_rfl) (hr : (Region.ready md ops listed).contains i = true := by kernel_rfl)
    (hQ : ∀ c v (a : Act) w, Q (.panic c) (a.put oi.dst v) w → Q (.panic c) a w := by exact fun _ _ _ _ h => h) (hw : Region.wanted oi (yielded ops a.tmps) = false := by rfl) (hS : S w)
    (h : wpAnyH P md ops Q S fuel (listed.setIfInBounds i true) (a.put oi.dst undef) w) : wpAnyH P md ops Q S (fuel + 1) listed a w := wh_skip hi hs hf hr hQ hw hS h
end
section
variable {P : Program} {ops : Array Oper} {C : World → Prop} {Q : Act → Prop} {rest : List Oper} {a : Act} {o : Oper} {w0 : World} {own : List Nat} {L : List (Nat × Obj)}
variable {dst : Option Tmp} {ty : TypeId} {pos : String} {aft : Array Edge} {gd : Option (Nat × Bool)}
theorem wqS {v : Value} (hw : Region.wanted o (yielded ops a.tmps) = true := by rfl) (h1 : ∀ w, C w → (execOp a.eval o).run P w = .ok (.value v) w := by intro w hC; go_simp; (try with_reducible rfl); done) (h : wpQuiet P ops C Q rest (a.put o.dst v)) : wpQuiet P ops C Q (o :: rest) a := wq_run hw h1 h
theorem wqL {T U : TypeId} {x : Operand} {b i : Nat} {cs : Array Value} {fr : Nat × Nat} {d : TypeDesc} (hw : Region.wanted ⟨dst, .load T x, ty, pos, aft, gd⟩ (yielded ops a.tmps) = true := by rfl)
    (hx : a.eval x = .pointer (some ⟨b, 0, none⟩) := by rfl) (hL : L[i]? = some (b, .cells cs U fr) := by with_reducible first | exact at0 | exact at1 | exact at2 | exact at3 | exact at4 | exact at5 | exact at6 | exact at7 | exact at8 | exact at9)
    (hu : P.underlying T = some d) (hd : (match d with | .struct _ | .array _ _ => true | _ => false) = true := by rfl) (hi : (P.info? T).map (·.size) = some cs.size)
    (h : wpQuiet P ops (Mem w0 own L) Q rest (a.put dst (.agg cs))) : wpQuiet P ops (Mem w0 own L) Q (⟨dst, .load T x, ty, pos, aft, gd⟩ :: rest) a := wq_load hw hL hx hu hd hi h
theorem wqLC {T U : TypeId} {x : Operand} {b i off : Nat} {cs : Array Value} {v : Value} {fr : Nat × Nat} {d : TypeDesc} (hw : Region.wanted ⟨dst, .load T x, ty, pos, aft, gd⟩ (yielded ops a.tmps) = true := by rfl)
    (hx : a.eval x = .pointer (some ⟨b, off, none⟩) := by rfl) (hL : L[i]? = some (b, .cells cs U fr) := by with_reducible first | exact at0 | exact at1 | exact at2 | exact at3 | exact at4 | exact at5 | exact at6 | exact at7 | exact at8 | exact at9) (hv : cs[off]? = some v := by rfl)
    (hu : P.underlying T = some d) (hd : (match d with | .struct _ | .array _ _ => true | _ => false) = false := by rfl)
    (h : wpQuiet P ops (Mem w0 own L) Q rest (a.put dst v)) : wpQuiet P ops (Mem w0 own L) Q (⟨dst, .load T x, ty, pos, aft, gd⟩ :: rest) a := wq_loadCell hw hL hx hv hu hd h
end
end Go.Proofs.Ytijkmbebfodhdaa

/- (LabB)
  Labels, continued: Covers, Span, Child.
-/
namespace Go.Proofs.Ytijkmbebfodhdaa
open Go.RowKit
set_option linter.unusedSimpArgs false
set_option linter.unusedVariables false
set_option maxHeartbeats 400000
set_option maxRecDepth 20000
attribute [local irreducible] wpQuiet wpList wpAnyH Calls

theorem is_true (len : Int) (b : Nat) (hb : b < 2 ^ 64) (h : isL len b = true) (w : World) :
    Calls Try.prog 33 #[labV len b] w fun e w' => e = .returned (.bool true) ∧ Ext w w' := by
  have := is_c len b hb w; rw [h] at this; exact this
theorem is_false (len : Int) (b : Nat) (hb : b < 2 ^ 64) (h : isL len b = false) (w : World) :
    Calls Try.prog 33 #[labV len b] w fun e w' => e = .returned (.bool false) ∧ Ext w w' := by
  have := is_c len b hb w; rw [h] at this; exact this
theorem built_zeroL : Try.prog.built 26 [] = some #[.int .i64 0, .int .u64 0] := by kernel_rfl

/-- The highest key of a label. -/
def hiL (n b : Nat) : Nat := b + (2 ^ (64 - n) - 1)
theorem or_low (b k : Nat) (h : b % 2 ^ k = 0) : b ||| (2 ^ k - 1) = b + (2 ^ k - 1) := by
  have hp : 0 < 2 ^ k := Nat.pow_pos (by omega)
  obtain ⟨q, rfl⟩ : ∃ q, b = 2 ^ k * q := ⟨b / 2 ^ k, by have := Nat.div_add_mod b (2 ^ k); omega⟩
  rw [Nat.two_pow_add_eq_or_of_lt (show 2 ^ k - 1 < 2 ^ k by omega)]
theorem hd_mod (b n : Nat) (h : hd b n = b) : b % 2 ^ (64 - n) = 0 := by rw [← h, hd_eq]; exact Nat.mul_mod_left _ _
theorem isL_mod (n b : Nat) (hl : isL (n : Int) b = true) : b % 2 ^ (64 - n) = 0 := hd_mod b n (by have := ((isL_iff _ _).1 hl).2.2; simpa using this)
theorem pow64_le (k : Nat) (h : k ≤ 64) : 2 ^ k ≤ 2 ^ 64 := Nat.pow_le_pow_right (by omega) h
theorem hiL_lt (n b : Nat) (hl : isL (n : Int) b = true) (hn : n ≤ 64) (hb : b < 2 ^ 64) : hiL n b < 2 ^ 64 := by
  have h := isL_mod n b hl
  have hp : 0 < 2 ^ (64 - n) := Nat.pow_pos (by omega)
  obtain ⟨q, rfl⟩ : ∃ q, b = 2 ^ (64 - n) * q := ⟨b / 2 ^ (64 - n), by have := Nat.div_add_mod b (2 ^ (64 - n)); omega⟩
  unfold hiL
  have hq : q < 2 ^ n := by
    refine Nat.lt_of_mul_lt_mul_left (a := 2 ^ (64 - n)) ?_
    rw [← Nat.pow_add, show 64 - n + n = 64 from by omega]; exact hb
  have := Nat.mul_le_mul_left (2 ^ (64 - n)) (show q + 1 ≤ 2 ^ n from hq)
  rw [← Nat.pow_add, show 64 - n + n = 64 from by omega, Nat.mul_add] at this
  omega

theorem pow64_lt (k : Nat) (h : k < 64) : 2 ^ k < 2 ^ 64 := Nat.pow_lt_pow_right (by omega) h
theorem or_bit (b n : Nat) (h : b % 2 ^ (64 - n) = 0) (hn : n < 64) : b ||| 2 ^ (63 - n) = b + 2 ^ (63 - n) := by
  have hp : 0 < 2 ^ (63 - n) := Nat.pow_pos (by omega)
  rw [show 64 - n = 63 - n + 1 from by omega] at h
  obtain ⟨q, rfl⟩ : ∃ q, b = 2 ^ (63 - n + 1) * q := ⟨b / 2 ^ (63 - n + 1), (Nat.mul_div_cancel' (Nat.dvd_of_mod_eq_zero h)).symm⟩
  rw [Nat.two_pow_add_eq_or_of_lt (show 2 ^ (63 - n) < 2 ^ (63 - n + 1) by rw [Nat.pow_succ]; omega)]

/-- The bits of the second child. -/
@[irreducible] def kid (b n : Nat) : Nat := b + 2 ^ (63 - n)
theorem kid_eq (b n : Nat) : kid b n = b + 2 ^ (63 - n) := by unfold kid; rfl
end Go.Proofs.Ytijkmbebfodhdaa

/- (Txt)
  Texts of noughts and ones: n bits of a number, the highest one first.
-/
namespace Go.Proofs.Ytijkmbebfodhdaa
set_option linter.unusedSimpArgs false
set_option linter.unusedVariables false
set_option maxRecDepth 20000

theorem bytesB_congr {n : Nat} {f g : Nat → Nat} (h : ∀ i, i < n → f i = g i) : bytesB n f = bytesB n g := by
  apply ByteArray.ext
  apply Array.toList_inj.1
  rw [bytesB_toList, bytesB_toList]
  exact List.map_congr_left fun i hi => by rw [h i (List.mem_range.1 hi)]
theorem bytesB_append (a b : Nat) (f g : Nat → Nat) : bytesB a f ++ bytesB b g = bytesB (a + b) fun i => if i < a then f i else g (i - a) := by
  apply ByteArray.ext
  apply Array.toList_inj.1
  rw [ByteArray.data_append, Array.toList_append, bytesB_toList, bytesB_toList, bytesB_toList]
  apply List.ext_getElem?
  intro i
  by_cases h : i < a
  · rw [List.getElem?_append_left (by simpa using h)]
    simp [List.getElem?_map, List.getElem?_range, h, show i < a + b from by omega]
  · rw [List.getElem?_append_right (by simpa using h)]
    by_cases h2 : i < a + b
    · simp [List.getElem?_map, List.getElem?_range, h, h2, show i - a < b from by omega]
    · rw [List.getElem?_eq_none (by simp; omega), List.getElem?_eq_none (by simp; omega)]
theorem bytesB_take (n m : Nat) (f : Nat → Nat) (h : m ≤ n) : (bytesB n f).extract 0 m = bytesB m f := by
  apply ByteArray.ext
  apply Array.toList_inj.1
  rw [ByteArray.data_extract, Array.toList_extract, bytesB_toList, bytesB_toList, List.extract_eq_take_drop]
  apply List.ext_getElem?
  intro i
  by_cases hi : i < m
  · simp [List.getElem?_take, hi, List.getElem?_map, List.getElem?_range, show i < n from by omega]
  · rw [List.getElem?_eq_none (by simp; omega), List.getElem?_eq_none (by simp; omega)]
theorem bytesB_drop (n m : Nat) (f : Nat → Nat) (h : m ≤ n) : (bytesB n f).extract m n = bytesB (n - m) fun i => f (m + i) := by
  apply ByteArray.ext
  apply Array.toList_inj.1
  rw [ByteArray.data_extract, Array.toList_extract, bytesB_toList, bytesB_toList, List.extract_eq_take_drop]
  apply List.ext_getElem?
  intro i
  by_cases hi : i < n - m
  · simp [List.getElem?_take, hi, List.getElem?_map, List.getElem?_range, show m + i < n from by omega]
  · rw [List.getElem?_eq_none (by simp; omega), List.getElem?_eq_none (by simp; omega)]
theorem bytesB_get {n : Nat} {f : Nat → Nat} {i : Nat} (h : i < n) : (bytesB n f).data.toList[i]? = some (UInt8.ofNat (f i)) := by
  rw [bytesB_toList]
  simp [List.getElem?_map, List.getElem?_range, h]
theorem bytesB_inj {n : Nat} {f g : Nat → Nat} (hf : ∀ i, i < n → f i < 256) (hg : ∀ i, i < n → g i < 256) (h : bytesB n f = bytesB n g) : ∀ i, i < n → f i = g i := fun i hi => by
  have h1 := bytesB_get (f := f) hi
  rw [h, bytesB_get hi, Option.some.injEq] at h1
  have h2 := congrArg UInt8.toNat h1
  simp only [UInt8.toNat_ofNat'] at h2
  have := hf i hi
  have := hg i hi
  omega
/-- Every row of bytes is told by a function of the place. -/
theorem bytes_of (s : ByteArray) : s = bytesB s.size fun i => ((s.data.toList[i]?).getD 0).toNat := by
  apply ByteArray.ext
  apply Array.toList_inj.1
  rw [bytesB_toList]
  apply List.ext_getElem?
  intro i
  have hs : s.data.toList.length = s.size := Array.length_toList
  by_cases h : i < s.size
  · have h' : i < s.data.toList.length := by omega
    rw [List.getElem?_map, List.getElem?_range h, Option.map_some, List.getElem?_eq_getElem h', Option.getD_some, UInt8.ofNat_toNat]
  · rw [List.getElem?_eq_none (by omega), List.getElem?_eq_none (by simp; omega)]

/-- n bits of v as a text, the highest one first. -/
@[irreducible] def txt (n v : Nat) : ByteArray := bytesB n fun i => 48 + v / 2 ^ (n - 1 - i) % 2
theorem txt_eq (n v : Nat) : txt n v = bytesB n fun i => 48 + v / 2 ^ (n - 1 - i) % 2 := by unfold txt; rfl
theorem txt_size (n v : Nat) : (txt n v).size = n := by rw [txt_eq, bytesB_size]
theorem txt_nil (v : Nat) : txt 0 v = { data := #[] } := by unfold txt bytesB; rfl
theorem chr_eq (x : Nat) (hx : x < 2) : (if x = 0 then ({ data := #[48] } : ByteArray) else { data := #[49] }) = bytesB 1 fun _ => 48 + x := by
  rcases (show x = 0 ∨ x = 1 by omega) with rfl | rfl <;> (unfold bytesB; rfl)
theorem div_pow_succ (v m : Nat) : v / 2 ^ (m + 1) = v / 2 / 2 ^ m := by rw [Nat.pow_succ, Nat.mul_comm, ← Nat.div_div_eq_div_mul]
theorem txt_snoc (n v x : Nat) (hx : x < 2) : txt n v ++ (bytesB 1 fun _ => 48 + x) = txt (n + 1) (2 * v + x) := by
  rw [txt_eq, txt_eq, bytesB_append]
  refine bytesB_congr fun i hi => ?_
  by_cases h : i < n
  · rw [if_pos h, show n + 1 - 1 - i = (n - 1 - i) + 1 from by omega, div_pow_succ, show (2 * v + x) / 2 = v from by omega]
  · rw [if_neg h, show n + 1 - 1 - i = 0 from by omega, Nat.pow_zero, Nat.div_one]
    omega
theorem txt_cons (n v x : Nat) (hx : x < 2) (hv : v < 2 ^ n) : (bytesB 1 fun _ => 48 + x) ++ txt n v = txt (n + 1) (2 ^ n * x + v) := by
  rw [txt_eq, txt_eq, bytesB_append, Nat.add_comm 1 n]
  refine bytesB_congr fun i hi => ?_
  have hp : 0 < 2 ^ n := Nat.pow_pos (by omega)
  by_cases h : i < 1
  · rw [if_pos h, show n + 1 - 1 - i = n from by omega, Nat.add_comm (2 ^ n * x), Nat.add_mul_div_left _ _ hp, Nat.div_eq_of_lt hv]
    omega
  · rw [if_neg h, show n + 1 - 1 - i = n - i from by omega, show n - 1 - (i - 1) = n - i from by omega]
    obtain ⟨t, ht⟩ : ∃ t, n = (n - i) + (t + 1) := ⟨i - 1, by omega⟩
    generalize n - i = m at *
    subst ht
    have hm : 0 < 2 ^ m := Nat.pow_pos (by omega)
    rw [Nat.pow_add, Nat.mul_assoc, Nat.add_comm (2 ^ m * _), Nat.add_mul_div_left _ _ hm, Nat.pow_succ, show 2 ^ t * 2 * x = 2 * (2 ^ t * x) from by rw [Nat.mul_comm (2 ^ t) 2, Nat.mul_assoc], Nat.add_mul_mod_self_left]
theorem txt_take (n m v : Nat) (h : m ≤ n) : (txt n v).extract 0 m = txt m (v / 2 ^ (n - m)) := by
  rw [txt_eq, txt_eq, bytesB_take _ _ _ h]
  refine bytesB_congr fun i hi => ?_
  rw [Nat.div_div_eq_div_mul, ← Nat.pow_add, show n - m + (m - 1 - i) = n - 1 - i from by omega]
theorem txt_inj (n u v : Nat) (hu : u < 2 ^ n) (hv : v < 2 ^ n) (h : txt n u = txt n v) : u = v := by
  rw [txt_eq, txt_eq] at h
  have hb := bytesB_inj (fun i _ => by omega) (fun i _ => by omega) h
  apply Nat.eq_of_testBit_eq
  intro j
  by_cases hj : j < n
  · have := hb (n - 1 - j) (by omega)
    rw [show n - 1 - (n - 1 - j) = j from by omega] at this
    rw [Nat.testBit_eq_decide_div_mod_eq, Nat.testBit_eq_decide_div_mod_eq, show u / 2 ^ j % 2 = v / 2 ^ j % 2 from by omega]
  · rw [Nat.testBit_lt_two_pow (Nat.lt_of_lt_of_le hu (Nat.pow_le_pow_right (by omega) (by omega))), Nat.testBit_lt_two_pow (Nat.lt_of_lt_of_le hv (Nat.pow_le_pow_right (by omega) (by omega)))]
theorem str_eq (a b : ByteArray) : (a.toList == b.toList) = decide (a = b) := by
  rw [← Go.beq_toListBytes, Bool.eq_iff_iff, Go.MapKept.bytes_beq, decide_eq_true_iff]
theorem txt_beq (n u v : Nat) (hu : u < 2 ^ n) (hv : v < 2 ^ n) : ((txt n u).toList == (txt n v).toList) = decide (u = v) := by
  rw [str_eq, Bool.eq_iff_iff, decide_eq_true_iff, decide_eq_true_iff]
  exact ⟨txt_inj n u v hu hv, fun h => by rw [h]⟩
/-- The byte at a place. -/
theorem txt_get (n v i : Nat) (h : i < n) : (txt n v).data.toList[i]? = some (UInt8.ofNat (48 + v / 2 ^ (n - 1 - i) % 2)) := by
  rw [txt_eq]; exact bytesB_get h
end Go.Proofs.Ytijkmbebfodhdaa

/- (RefA)
  The document's labels: bits, number, fill, of, Is, Bits.
-/
namespace Go.Proofs.Ytijkmbebfodhdaa
open Go.RowKit
set_option linter.unusedSimpArgs false
set_option linter.unusedVariables false
set_option maxHeartbeats 1000000
set_option maxRecDepth 20000
attribute [local irreducible] wpQuiet wpList wpAnyH Calls

/-- What the walk is told of a callee. -/
def Says (f : FuncId) (args : Array Value) (v : Value) : Prop := ∀ w, Calls Try.prog f args w fun e w' => e = .returned v ∧ Ext w w'

theorem undS : Try.prog.underlying 9 = some .string := by kernel_rfl
theorem built_lab (x y : Int) : Try.prog.built 26 [(0, .int .i64 x), (1, .int .u64 y)] = some #[.int .i64 x, .int .u64 y] := by kernel_rfl
/-- A byte of a text. -/
theorem run_indexS {s : ByteArray} {k c : Nat} (h : s.data.toList[k]? = some (UInt8.ofNat c)) (hc : c < 256) (w : World) : (Instr.index 9 (.string s) (.int .i64 (k : Int))).run Try.prog w = .ok (.int .u8 (c : Int)) w := by
  have hk : k < s.data.toList.length := (List.getElem?_eq_some_iff.1 h).1
  have hb : s[k]? = some (UInt8.ofNat c) := by
    have : s.data[k]? = some (UInt8.ofNat c) := by rw [← Array.getElem?_toList]; exact h
    have hs : k < s.size := by rw [Array.length_toList] at hk; exact hk
    rw [getElem?_pos s k hs]
    rw [Array.getElem?_eq_getElem hs] at this
    exact this
  have hc' : (UInt8.ofNat c).toNat = c := by simp only [UInt8.toNat_ofNat']; omega
  simp [Instr.index, asIntOf, run_underlying undS, hb, hc']
theorem slice_to {s t : ByteArray} {n : Nat} (hn : n ≤ s.size) (h : s.extract 0 n = t) (w : World) : (Instr.slice 9 (.string s) none (some (.int .i64 (n : Int))) none).run Try.prog w = .ok (.string t) w := by
  rw [run_slice_string_to_if _ _ _ _ _ undS, if_pos ⟨by omega, by omega⟩, Int.toNat_natCast, h]
theorem slice_from {s t : ByteArray} {n : Nat} (hn : n ≤ s.size) (h : s.extract n s.size = t) (w : World) : (Instr.slice 9 (.string s) (some (.int .i64 (n : Int))) none none).run Try.prog w = .ok (.string t) w := by
  rw [run_slice_string_from_if _ _ _ _ _ undS, if_pos ⟨by omega, by omega⟩, Int.toNat_natCast, h]

theorem refBits_c (v : Nat) (hv : v < 2 ^ 64) (w : World) :
    Calls Try.prog 45 #[.int .u64 (v : Int)] w fun e w' => e = .returned (.string (txt 64 v)) ∧ Ext w w' := by
  go_enter Try.func45, Try.ntmps45
  have hm := Mem.refl w []
  go_wp2_with ((first | refine wpList_skip (by rfl) ?_ | (refine wlL (hm := hm) (hu := by first | exact undLabel) (hi := by (try simp only [rowOf_size]); first | exact sizeLabel) (h := ?_); (try simp only [Act.put, k1, k2, k3]); (try simp only [← labV_eq])) | refine wlLC (hm := hm) (hu := by first | exact undInt | exact undU64) (h := ?_) | (refine wlS (hm := hm) (hv := (by first | rfl | exact idV_eq _ | exact labV_eq _ _ | exact rectV_eq _ _ _ _)) (hi := by (try simp only [rowOf_size]); first | exact sizeLabel) (hs := by first | (simp only [rowOf_size]; done) | rfl) (h := ?_); clear hm; intro w1 hm; (try simp only [rowOf_set, k1, k2, k3, Value.cells, Act.eval, k7, k8, k9, kA, Option.getD_some] at hm)) | (refine wlSC (hm := hm) (hi := by first | exact sizeInt | exact sizeU64) (ho := by first | decide | (simp only [rowOf_size]; omega) | (simp; done)) (h := ?_); clear hm; intro w1 hm; (try simp only [rowOf_set, k1, k2, k3, Value.cells, Act.eval, k7, k8, k9, kA, Option.getD_some] at hm)) | (refine wlA (hz := by first | exact zeroLabel) (hm := hm) (h := ?_); clear hm; intro b1 w1 hm; (try simp only [rowOf_set, k1, k2, k3, Value.cells, Act.eval, k7, k8, k9, kA, Option.getD_some] at hm)) | (refine wl_box (by rfl) rfl (by first | exact idV_cells _ | exact labV_cells _ _ | exact rectV_cells _ _ _ _ | rfl) hm ?_; clear hm; intro b1 w1 hm) | (refine wl_build (by rfl) (built_zeroL) rfl ?_; (try simp only [Act.put, k1, k2, k3]); (try simp only [← labV_eq])) | (refine wl_build (by rfl) (built_lab _ _) rfl ?_; (try simp only [Act.put, k1, k2, k3]); (try simp only [← labV_eq]))); (try simp only [k4, k5, k6, Act.put, k1, k2, k3]))
  go_loopw [0, 3, 4] (fun vc vo vi wr => ∃ k : Nat, k ≤ 64 ∧ vi = .int .i64 (k : Int) ∧ vc = .int .u64 ((v / 2 ^ k : Nat) : Int) ∧ vo = .string (txt k (v % 2 ^ k)) ∧ Mem w [] [] wr)
    (fun _ _ vi _ => (64 - intOf vi).toNat)
  case atStart => exact ⟨0, by omega, rfl, by rw [Nat.pow_zero, Nat.div_one], by rw [txt_nil], hm⟩
  case round =>
    clear hm
    obtain ⟨k, hk, rfl, rfl, rfl, hm⟩ := hrel
    by_cases h0 : k < 64
    · have hk64 : (k : Int) < 64 := by omega
      have w1 : IntKind.i64.wrap ((k : Int) + 1) = (k : Int) + 1 := wrap_i64 (by omega) (by omega)
      obtain ⟨c, hc⟩ : ∃ c, v / 2 ^ k = c := ⟨_, rfl⟩
      obtain ⟨x, hx⟩ : ∃ x, c % 2 = x := ⟨_, rfl⟩
      have hx2 : x < 2 := by omega
      have HC := hid (show v / 2 ^ (k + 1) = c / 2 from by rw [Nat.pow_succ, ← Nat.div_div_eq_div_mul, hc])
      have HN := hid (show (if x = 0 then ({ data := #[48] } : ByteArray) else { data := #[49] }) ++ txt k (v % 2 ^ k) = txt (k + 1) (v % 2 ^ (k + 1)) from by
        rw [chr_eq x hx2, txt_cons _ _ _ hx2 (Nat.mod_lt _ (Nat.pow_pos (by omega))), Nat.mod_pow_succ, hc, hx, Nat.add_comm (2 ^ k * x)])
      obtain ⟨o, ho⟩ : ∃ o, txt k (v % 2 ^ k) = o := ⟨_, rfl⟩
      rw [ho] at HN
      rw [ho, hc]
      obtain ⟨c2, hc2⟩ : ∃ c2, c / 2 = c2 := ⟨_, rfl⟩
      rw [hc2] at HC
      have f2 : (c : Int) / 2 = (c2 : Int) := by omega
      have hcl : c < 2 ^ 64 := by rw [← hc]; exact Nat.lt_of_le_of_lt (Nat.div_le_self _ _) hv
      have f3 : IntKind.u64.wrap (c2 : Int) = (c2 : Int) := wrap_u64 (by omega) (by omega)
      have hz : ¬ 9223372036854775807 < 1 + o.size := by rw [← ho, txt_size]; omega
      clear ho hc hc2 hcl
      rcases (show x = 0 ∨ x = 1 by omega) with rfl | rfl
      · have f1 : (c : Int) % 2 = 0 := by omega
        clear hx hx2
        go_wp2_with ((first | refine wpList_skip (by rfl) ?_ | (refine wlL (hm := hm) (hu := by first | exact undLabel) (hi := by (try simp only [rowOf_size]); first | exact sizeLabel) (h := ?_); (try simp only [Act.put, k1, k2, k3]); (try simp only [← labV_eq])) | refine wlLC (hm := hm) (hu := by first | exact undInt | exact undU64) (h := ?_) | (refine wlS (hm := hm) (hv := (by first | rfl | exact idV_eq _ | exact labV_eq _ _ | exact rectV_eq _ _ _ _)) (hi := by (try simp only [rowOf_size]); first | exact sizeLabel) (hs := by first | (simp only [rowOf_size]; done) | rfl) (h := ?_); clear hm; intro w1 hm; (try simp only [rowOf_set, k1, k2, k3, Value.cells, Act.eval, k7, k8, k9, kA, Option.getD_some] at hm)) | (refine wlSC (hm := hm) (hi := by first | exact sizeInt | exact sizeU64) (ho := by first | decide | (simp only [rowOf_size]; omega) | (simp; done)) (h := ?_); clear hm; intro w1 hm; (try simp only [rowOf_set, k1, k2, k3, Value.cells, Act.eval, k7, k8, k9, kA, Option.getD_some] at hm)) | (refine wlA (hz := by first | exact zeroLabel) (hm := hm) (h := ?_); clear hm; intro b1 w1 hm; (try simp only [rowOf_set, k1, k2, k3, Value.cells, Act.eval, k7, k8, k9, kA, Option.getD_some] at hm)) | (refine wl_box (by rfl) rfl (by first | exact idV_cells _ | exact labV_cells _ _ | exact rectV_cells _ _ _ _ | rfl) hm ?_; clear hm; intro b1 w1 hm) | (refine wl_build (by rfl) (built_zeroL) rfl ?_; (try simp only [Act.put, k1, k2, k3]); (try simp only [← labV_eq])) | (refine wl_build (by rfl) (built_lab _ _) rfl ?_; (try simp only [Act.put, k1, k2, k3]); (try simp only [← labV_eq]))); (try simp only [k4, k5, k6, Act.put, k1, k2, k3]))
        go_roundw
        case rel => exact ⟨k + 1, by omega, by go_num, by rw [HC.out], by rw [← HN.out]; rfl, hm⟩
        case measure => (simp [intOf]; try omega)
      · have f1 : (c : Int) % 2 = 1 := by omega
        clear hx hx2
        go_wp2_with ((first | refine wpList_skip (by rfl) ?_ | (refine wlL (hm := hm) (hu := by first | exact undLabel) (hi := by (try simp only [rowOf_size]); first | exact sizeLabel) (h := ?_); (try simp only [Act.put, k1, k2, k3]); (try simp only [← labV_eq])) | refine wlLC (hm := hm) (hu := by first | exact undInt | exact undU64) (h := ?_) | (refine wlS (hm := hm) (hv := (by first | rfl | exact idV_eq _ | exact labV_eq _ _ | exact rectV_eq _ _ _ _)) (hi := by (try simp only [rowOf_size]); first | exact sizeLabel) (hs := by first | (simp only [rowOf_size]; done) | rfl) (h := ?_); clear hm; intro w1 hm; (try simp only [rowOf_set, k1, k2, k3, Value.cells, Act.eval, k7, k8, k9, kA, Option.getD_some] at hm)) | (refine wlSC (hm := hm) (hi := by first | exact sizeInt | exact sizeU64) (ho := by first | decide | (simp only [rowOf_size]; omega) | (simp; done)) (h := ?_); clear hm; intro w1 hm; (try simp only [rowOf_set, k1, k2, k3, Value.cells, Act.eval, k7, k8, k9, kA, Option.getD_some] at hm)) | (refine wlA (hz := by first | exact zeroLabel) (hm := hm) (h := ?_); clear hm; intro b1 w1 hm; (try simp only [rowOf_set, k1, k2, k3, Value.cells, Act.eval, k7, k8, k9, kA, Option.getD_some] at hm)) | (refine wl_box (by rfl) rfl (by first | exact idV_cells _ | exact labV_cells _ _ | exact rectV_cells _ _ _ _ | rfl) hm ?_; clear hm; intro b1 w1 hm) | (refine wl_build (by rfl) (built_zeroL) rfl ?_; (try simp only [Act.put, k1, k2, k3]); (try simp only [← labV_eq])) | (refine wl_build (by rfl) (built_lab _ _) rfl ?_; (try simp only [Act.put, k1, k2, k3]); (try simp only [← labV_eq]))); (try simp only [k4, k5, k6, Act.put, k1, k2, k3]))
        go_roundw
        case rel => exact ⟨k + 1, by omega, by go_num, by rw [HC.out], by rw [← HN.out]; rfl, hm⟩
        case measure => (simp [intOf]; try omega)
    · obtain rfl : k = 64 := by omega
      go_wp2_with ((first | refine wpList_skip (by rfl) ?_ | (refine wlL (hm := hm) (hu := by first | exact undLabel) (hi := by (try simp only [rowOf_size]); first | exact sizeLabel) (h := ?_); (try simp only [Act.put, k1, k2, k3]); (try simp only [← labV_eq])) | refine wlLC (hm := hm) (hu := by first | exact undInt | exact undU64) (h := ?_) | (refine wlS (hm := hm) (hv := (by first | rfl | exact idV_eq _ | exact labV_eq _ _ | exact rectV_eq _ _ _ _)) (hi := by (try simp only [rowOf_size]); first | exact sizeLabel) (hs := by first | (simp only [rowOf_size]; done) | rfl) (h := ?_); clear hm; intro w1 hm; (try simp only [rowOf_set, k1, k2, k3, Value.cells, Act.eval, k7, k8, k9, kA, Option.getD_some] at hm)) | (refine wlSC (hm := hm) (hi := by first | exact sizeInt | exact sizeU64) (ho := by first | decide | (simp only [rowOf_size]; omega) | (simp; done)) (h := ?_); clear hm; intro w1 hm; (try simp only [rowOf_set, k1, k2, k3, Value.cells, Act.eval, k7, k8, k9, kA, Option.getD_some] at hm)) | (refine wlA (hz := by first | exact zeroLabel) (hm := hm) (h := ?_); clear hm; intro b1 w1 hm; (try simp only [rowOf_set, k1, k2, k3, Value.cells, Act.eval, k7, k8, k9, kA, Option.getD_some] at hm)) | (refine wl_box (by rfl) rfl (by first | exact idV_cells _ | exact labV_cells _ _ | exact rectV_cells _ _ _ _ | rfl) hm ?_; clear hm; intro b1 w1 hm) | (refine wl_build (by rfl) (built_zeroL) rfl ?_; (try simp only [Act.put, k1, k2, k3]); (try simp only [← labV_eq])) | (refine wl_build (by rfl) (built_lab _ _) rfl ?_; (try simp only [Act.put, k1, k2, k3]); (try simp only [← labV_eq]))); (try simp only [k4, k5, k6, Act.put, k1, k2, k3]))
      go_ret
      exact ⟨by rw [Nat.mod_eq_of_lt hv]; rfl, hm.ext⟩

theorem number_c (v : Nat) (hv : v < 2 ^ 64) (w : World) :
    Calls Try.prog 81 #[.string (txt 64 v)] w fun e w' => e = .returned (.int .u64 (v : Int)) ∧ Ext w w' := by
  have hsz := txt_size 64 v
  have HI := hid (show ∀ k : Nat, k < 64 → ∀ w, (Instr.index 9 (.string (txt 64 v)) (.int .i64 (k : Int))).run Try.prog w = .ok (.int .u8 ((48 + v / 2 ^ (64 - 1 - k) % 2 : Nat) : Int)) w from fun k hk => run_indexS (txt_get 64 v k hk) (by omega))
  generalize txt 64 v = s at *
  have hs1 : (s.size : Int) = 64 := by omega
  clear hsz
  go_enter Try.func81, Try.ntmps81
  have hm := Mem.refl w []
  go_wp2_with ((first | refine wpList_skip (by rfl) ?_ | (refine wlL (hm := hm) (hu := by first | exact undLabel) (hi := by (try simp only [rowOf_size]); first | exact sizeLabel) (h := ?_); (try simp only [Act.put, k1, k2, k3]); (try simp only [← labV_eq])) | refine wlLC (hm := hm) (hu := by first | exact undInt | exact undU64) (h := ?_) | (refine wlS (hm := hm) (hv := (by first | rfl | exact idV_eq _ | exact labV_eq _ _ | exact rectV_eq _ _ _ _)) (hi := by (try simp only [rowOf_size]); first | exact sizeLabel) (hs := by first | (simp only [rowOf_size]; done) | rfl) (h := ?_); clear hm; intro w1 hm; (try simp only [rowOf_set, k1, k2, k3, Value.cells, Act.eval, k7, k8, k9, kA, Option.getD_some] at hm)) | (refine wlSC (hm := hm) (hi := by first | exact sizeInt | exact sizeU64) (ho := by first | decide | (simp only [rowOf_size]; omega) | (simp; done)) (h := ?_); clear hm; intro w1 hm; (try simp only [rowOf_set, k1, k2, k3, Value.cells, Act.eval, k7, k8, k9, kA, Option.getD_some] at hm)) | (refine wlA (hz := by first | exact zeroLabel) (hm := hm) (h := ?_); clear hm; intro b1 w1 hm; (try simp only [rowOf_set, k1, k2, k3, Value.cells, Act.eval, k7, k8, k9, kA, Option.getD_some] at hm)) | (refine wl_box (by rfl) rfl (by first | exact idV_cells _ | exact labV_cells _ _ | exact rectV_cells _ _ _ _ | rfl) hm ?_; clear hm; intro b1 w1 hm) | (refine wl_build (by rfl) (built_zeroL) rfl ?_; (try simp only [Act.put, k1, k2, k3]); (try simp only [← labV_eq])) | (refine wl_build (by rfl) (built_lab _ _) rfl ?_; (try simp only [Act.put, k1, k2, k3]); (try simp only [← labV_eq]))); (try simp only [k4, k5, k6, Act.put, k1, k2, k3]))
  go_loopw [3, 4] (fun vo vi wr => ∃ k : Nat, k ≤ 64 ∧ vi = .int .i64 (k : Int) ∧ vo = .int .u64 ((v / 2 ^ (64 - k) : Nat) : Int) ∧ Mem w [] [] wr)
    (fun _ vi _ => (64 - intOf vi).toNat)
  case atStart => exact ⟨0, by omega, rfl, by rw [show 64 - 0 = 64 from rfl, Nat.div_eq_of_lt hv]; rfl, hm⟩
  case round =>
    clear hm
    obtain ⟨k, hk, rfl, rfl, hm⟩ := hrel
    by_cases h0 : k < 64
    · have hk64 : (k : Int) < 64 := by omega
      have w1 : IntKind.i64.wrap ((k : Int) + 1) = (k : Int) + 1 := wrap_i64 (by omega) (by omega)
      have hI := HI.out k h0
      obtain ⟨q, hq⟩ : ∃ q, v / 2 ^ (64 - k) = q := ⟨_, rfl⟩
      obtain ⟨p, hp⟩ : ∃ p, v / 2 ^ (64 - (k + 1)) = p := ⟨_, rfl⟩
      have hp64 : p < 2 ^ 64 := by rw [← hp]; exact Nat.lt_of_le_of_lt (Nat.div_le_self _ _) hv
      have hqp : q = p / 2 := by rw [← hq, ← hp, Nat.div_div_eq_div_mul, show 64 - k = 64 - (k + 1) + 1 from by omega, Nat.pow_succ]
      rw [show 64 - 1 - k = 64 - (k + 1) from by omega, hp] at hI
      have HP := hid hp
      obtain ⟨x, hx⟩ : ∃ x, p % 2 = x := ⟨_, rfl⟩
      rw [hx] at hI
      obtain ⟨c, hc⟩ : ∃ c, 48 + x = c := ⟨_, rfl⟩
      rw [hc] at hI
      have f1 : IntKind.u8.wrap ((c : Int) - 48) = (x : Int) := by rw [wrap_u8 (by omega) (by omega)]; omega
      have f2 : IntKind.u64.wrap (x : Int) = (x : Int) := wrap_u64 (by omega) (by omega)
      have f3 : IntKind.u64.wrap (2 * (q : Int)) = 2 * (q : Int) := wrap_u64 (by omega) (by omega)
      have f4 : IntKind.u64.wrap (2 * (q : Int) + (x : Int)) = (p : Int) := by rw [wrap_u64 (by omega) (by omega)]; omega
      rw [hq]
      clear hq hp hqp hx hc hp64
      go_wp2_with ((first | refine wpList_skip (by rfl) ?_ | (refine wlL (hm := hm) (hu := by first | exact undLabel) (hi := by (try simp only [rowOf_size]); first | exact sizeLabel) (h := ?_); (try simp only [Act.put, k1, k2, k3]); (try simp only [← labV_eq])) | refine wlLC (hm := hm) (hu := by first | exact undInt | exact undU64) (h := ?_) | (refine wlS (hm := hm) (hv := (by first | rfl | exact idV_eq _ | exact labV_eq _ _ | exact rectV_eq _ _ _ _)) (hi := by (try simp only [rowOf_size]); first | exact sizeLabel) (hs := by first | (simp only [rowOf_size]; done) | rfl) (h := ?_); clear hm; intro w1 hm; (try simp only [rowOf_set, k1, k2, k3, Value.cells, Act.eval, k7, k8, k9, kA, Option.getD_some] at hm)) | (refine wlSC (hm := hm) (hi := by first | exact sizeInt | exact sizeU64) (ho := by first | decide | (simp only [rowOf_size]; omega) | (simp; done)) (h := ?_); clear hm; intro w1 hm; (try simp only [rowOf_set, k1, k2, k3, Value.cells, Act.eval, k7, k8, k9, kA, Option.getD_some] at hm)) | (refine wlA (hz := by first | exact zeroLabel) (hm := hm) (h := ?_); clear hm; intro b1 w1 hm; (try simp only [rowOf_set, k1, k2, k3, Value.cells, Act.eval, k7, k8, k9, kA, Option.getD_some] at hm)) | (refine wl_box (by rfl) rfl (by first | exact idV_cells _ | exact labV_cells _ _ | exact rectV_cells _ _ _ _ | rfl) hm ?_; clear hm; intro b1 w1 hm) | (refine wl_build (by rfl) (built_zeroL) rfl ?_; (try simp only [Act.put, k1, k2, k3]); (try simp only [← labV_eq])) | (refine wl_build (by rfl) (built_lab _ _) rfl ?_; (try simp only [Act.put, k1, k2, k3]); (try simp only [← labV_eq]))); (try simp only [k4, k5, k6, Act.put, k1, k2, k3]))
      go_roundw
      case rel => exact ⟨k + 1, by omega, by go_num, by rw [HP.out], hm⟩
      case measure => (simp [intOf]; try omega)
    · obtain rfl : k = 64 := by omega
      go_wp2_with ((first | refine wpList_skip (by rfl) ?_ | (refine wlL (hm := hm) (hu := by first | exact undLabel) (hi := by (try simp only [rowOf_size]); first | exact sizeLabel) (h := ?_); (try simp only [Act.put, k1, k2, k3]); (try simp only [← labV_eq])) | refine wlLC (hm := hm) (hu := by first | exact undInt | exact undU64) (h := ?_) | (refine wlS (hm := hm) (hv := (by first | rfl | exact idV_eq _ | exact labV_eq _ _ | exact rectV_eq _ _ _ _)) (hi := by (try simp only [rowOf_size]); first | exact sizeLabel) (hs := by first | (simp only [rowOf_size]; done) | rfl) (h := ?_); clear hm; intro w1 hm; (try simp only [rowOf_set, k1, k2, k3, Value.cells, Act.eval, k7, k8, k9, kA, Option.getD_some] at hm)) | (refine wlSC (hm := hm) (hi := by first | exact sizeInt | exact sizeU64) (ho := by first | decide | (simp only [rowOf_size]; omega) | (simp; done)) (h := ?_); clear hm; intro w1 hm; (try simp only [rowOf_set, k1, k2, k3, Value.cells, Act.eval, k7, k8, k9, kA, Option.getD_some] at hm)) | (refine wlA (hz := by first | exact zeroLabel) (hm := hm) (h := ?_); clear hm; intro b1 w1 hm; (try simp only [rowOf_set, k1, k2, k3, Value.cells, Act.eval, k7, k8, k9, kA, Option.getD_some] at hm)) | (refine wl_box (by rfl) rfl (by first | exact idV_cells _ | exact labV_cells _ _ | exact rectV_cells _ _ _ _ | rfl) hm ?_; clear hm; intro b1 w1 hm) | (refine wl_build (by rfl) (built_zeroL) rfl ?_; (try simp only [Act.put, k1, k2, k3]); (try simp only [← labV_eq])) | (refine wl_build (by rfl) (built_lab _ _) rfl ?_; (try simp only [Act.put, k1, k2, k3]); (try simp only [← labV_eq]))); (try simp only [k4, k5, k6, Act.put, k1, k2, k3]))
      go_ret
      exact ⟨by rw [show 64 - 64 = 0 from rfl, Nat.pow_zero, Nat.div_one]; rfl, hm.ext⟩

/-- n bits, filled up with others. -/
def fillV (v x m : Nat) : Nat := v * 2 ^ m + x * (2 ^ m - 1)
theorem fillV_zero (v x : Nat) : fillV v x 0 = v := by simp [fillV]
theorem fillV_succ (v x m : Nat) (hx : x < 2) : fillV v x (m + 1) = 2 * fillV v x m + x := by
  have hp : 0 < 2 ^ m := Nat.pow_pos (by omega)
  unfold fillV
  rw [Nat.pow_succ, ← Nat.mul_assoc]
  generalize 2 ^ m = P at *
  generalize v * P = V at *
  rcases (show x = 0 ∨ x = 1 by omega) with rfl | rfl <;> omega
theorem fill_c (n v x : Nat) (c : ByteArray) (hn : n ≤ 64) (hx : x < 2) (hc : c = bytesB 1 fun _ => 48 + x) (w : World) :
    Calls Try.prog 82 #[.string (txt n v), .string c] w fun e w' => e = .returned (.string (txt 64 (fillV v x (64 - n)))) ∧ Ext w w' := by
  have HC := hid hc
  clear hc
  go_enter Try.func82, Try.ntmps82
  have hm := Mem.refl w []
  go_wp2_with ((first | refine wpList_skip (by rfl) ?_ | (refine wlL (hm := hm) (hu := by first | exact undLabel) (hi := by (try simp only [rowOf_size]); first | exact sizeLabel) (h := ?_); (try simp only [Act.put, k1, k2, k3]); (try simp only [← labV_eq])) | refine wlLC (hm := hm) (hu := by first | exact undInt | exact undU64) (h := ?_) | (refine wlS (hm := hm) (hv := (by first | rfl | exact idV_eq _ | exact labV_eq _ _ | exact rectV_eq _ _ _ _)) (hi := by (try simp only [rowOf_size]); first | exact sizeLabel) (hs := by first | (simp only [rowOf_size]; done) | rfl) (h := ?_); clear hm; intro w1 hm; (try simp only [rowOf_set, k1, k2, k3, Value.cells, Act.eval, k7, k8, k9, kA, Option.getD_some] at hm)) | (refine wlSC (hm := hm) (hi := by first | exact sizeInt | exact sizeU64) (ho := by first | decide | (simp only [rowOf_size]; omega) | (simp; done)) (h := ?_); clear hm; intro w1 hm; (try simp only [rowOf_set, k1, k2, k3, Value.cells, Act.eval, k7, k8, k9, kA, Option.getD_some] at hm)) | (refine wlA (hz := by first | exact zeroLabel) (hm := hm) (h := ?_); clear hm; intro b1 w1 hm; (try simp only [rowOf_set, k1, k2, k3, Value.cells, Act.eval, k7, k8, k9, kA, Option.getD_some] at hm)) | (refine wl_box (by rfl) rfl (by first | exact idV_cells _ | exact labV_cells _ _ | exact rectV_cells _ _ _ _ | rfl) hm ?_; clear hm; intro b1 w1 hm) | (refine wl_build (by rfl) (built_zeroL) rfl ?_; (try simp only [Act.put, k1, k2, k3]); (try simp only [← labV_eq])) | (refine wl_build (by rfl) (built_lab _ _) rfl ?_; (try simp only [Act.put, k1, k2, k3]); (try simp only [← labV_eq]))); (try simp only [k4, k5, k6, Act.put, k1, k2, k3]))
  go_loopw [0] (fun vs wr => ∃ m : Nat, n ≤ m ∧ m ≤ 64 ∧ vs = .string (txt m (fillV v x (m - n))) ∧ Mem w [] [] wr)
    (fun vs _ => 64 - (match vs with | .string s => s.size | _ => 0))
  case atStart => exact ⟨n, Nat.le_refl _, hn, by rw [Nat.sub_self, fillV_zero], hm⟩
  case round =>
    clear hm
    obtain ⟨m, hm1, hm2, rfl, hm⟩ := hrel
    have hsz := txt_size m (fillV v x (m - n))
    have HN := hid (show txt m (fillV v x (m - n)) ++ c = txt (m + 1) (fillV v x (m + 1 - n)) from by
      rw [HC.out, txt_snoc _ _ _ hx, show m + 1 - n = (m - n) + 1 from by omega, fillV_succ _ _ _ hx])
    by_cases h0 : m < 64
    · generalize txt m (fillV v x (m - n)) = s at *
      have hs1 : (s.size : Int) < 64 := by omega
      have hs2 : s.size < 64 := by omega
      have HZ := hid hsz
      have hz : ¬ 9223372036854775807 < s.size + c.size := by rw [HC.out, bytesB_size]; omega
      clear hsz
      go_wp2_with ((first | refine wpList_skip (by rfl) ?_ | (refine wlL (hm := hm) (hu := by first | exact undLabel) (hi := by (try simp only [rowOf_size]); first | exact sizeLabel) (h := ?_); (try simp only [Act.put, k1, k2, k3]); (try simp only [← labV_eq])) | refine wlLC (hm := hm) (hu := by first | exact undInt | exact undU64) (h := ?_) | (refine wlS (hm := hm) (hv := (by first | rfl | exact idV_eq _ | exact labV_eq _ _ | exact rectV_eq _ _ _ _)) (hi := by (try simp only [rowOf_size]); first | exact sizeLabel) (hs := by first | (simp only [rowOf_size]; done) | rfl) (h := ?_); clear hm; intro w1 hm; (try simp only [rowOf_set, k1, k2, k3, Value.cells, Act.eval, k7, k8, k9, kA, Option.getD_some] at hm)) | (refine wlSC (hm := hm) (hi := by first | exact sizeInt | exact sizeU64) (ho := by first | decide | (simp only [rowOf_size]; omega) | (simp; done)) (h := ?_); clear hm; intro w1 hm; (try simp only [rowOf_set, k1, k2, k3, Value.cells, Act.eval, k7, k8, k9, kA, Option.getD_some] at hm)) | (refine wlA (hz := by first | exact zeroLabel) (hm := hm) (h := ?_); clear hm; intro b1 w1 hm; (try simp only [rowOf_set, k1, k2, k3, Value.cells, Act.eval, k7, k8, k9, kA, Option.getD_some] at hm)) | (refine wl_box (by rfl) rfl (by first | exact idV_cells _ | exact labV_cells _ _ | exact rectV_cells _ _ _ _ | rfl) hm ?_; clear hm; intro b1 w1 hm) | (refine wl_build (by rfl) (built_zeroL) rfl ?_; (try simp only [Act.put, k1, k2, k3]); (try simp only [← labV_eq])) | (refine wl_build (by rfl) (built_lab _ _) rfl ?_; (try simp only [Act.put, k1, k2, k3]); (try simp only [← labV_eq]))); (try simp only [k4, k5, k6, Act.put, k1, k2, k3]))
      go_roundw
      case rel => exact ⟨m + 1, by omega, by omega, by rw [HN.out], hm⟩
      case measure =>
        show 64 - (s ++ c).size < 64 - s.size
        have := HZ.out
        rw [HN.out, txt_size]
        omega
    · obtain rfl : m = 64 := by omega
      obtain ⟨s, hs⟩ : ∃ s, txt 64 (fillV v x (64 - n)) = s := ⟨_, rfl⟩
      rw [hs] at hsz ⊢
      have HS := hid hs
      have hs1 : (s.size : Int) = 64 := by omega
      clear hsz hs HN
      go_wp2_with ((first | refine wpList_skip (by rfl) ?_ | (refine wlL (hm := hm) (hu := by first | exact undLabel) (hi := by (try simp only [rowOf_size]); first | exact sizeLabel) (h := ?_); (try simp only [Act.put, k1, k2, k3]); (try simp only [← labV_eq])) | refine wlLC (hm := hm) (hu := by first | exact undInt | exact undU64) (h := ?_) | (refine wlS (hm := hm) (hv := (by first | rfl | exact idV_eq _ | exact labV_eq _ _ | exact rectV_eq _ _ _ _)) (hi := by (try simp only [rowOf_size]); first | exact sizeLabel) (hs := by first | (simp only [rowOf_size]; done) | rfl) (h := ?_); clear hm; intro w1 hm; (try simp only [rowOf_set, k1, k2, k3, Value.cells, Act.eval, k7, k8, k9, kA, Option.getD_some] at hm)) | (refine wlSC (hm := hm) (hi := by first | exact sizeInt | exact sizeU64) (ho := by first | decide | (simp only [rowOf_size]; omega) | (simp; done)) (h := ?_); clear hm; intro w1 hm; (try simp only [rowOf_set, k1, k2, k3, Value.cells, Act.eval, k7, k8, k9, kA, Option.getD_some] at hm)) | (refine wlA (hz := by first | exact zeroLabel) (hm := hm) (h := ?_); clear hm; intro b1 w1 hm; (try simp only [rowOf_set, k1, k2, k3, Value.cells, Act.eval, k7, k8, k9, kA, Option.getD_some] at hm)) | (refine wl_box (by rfl) rfl (by first | exact idV_cells _ | exact labV_cells _ _ | exact rectV_cells _ _ _ _ | rfl) hm ?_; clear hm; intro b1 w1 hm) | (refine wl_build (by rfl) (built_zeroL) rfl ?_; (try simp only [Act.put, k1, k2, k3]); (try simp only [← labV_eq])) | (refine wl_build (by rfl) (built_lab _ _) rfl ?_; (try simp only [Act.put, k1, k2, k3]); (try simp only [← labV_eq]))); (try simp only [k4, k5, k6, Act.put, k1, k2, k3]))
      go_ret
      exact ⟨by rw [HS.out]; rfl, hm.ext⟩
theorem fill0_c (n v : Nat) (hn : n ≤ 64) (w : World) :
    Calls Try.prog 82 #[.string (txt n v), .string { data := #[48] }] w fun e w' => e = .returned (.string (txt 64 (v * 2 ^ (64 - n)))) ∧ Ext w w' := by
  have h := fill_c n v 0 { data := #[48] } hn (by omega) (chr_eq 0 (by omega)) w
  rwa [fillV, Nat.zero_mul, Nat.add_zero] at h
theorem fill1_c (n v : Nat) (hn : n ≤ 64) (w : World) :
    Calls Try.prog 82 #[.string (txt n v), .string { data := #[49] }] w fun e w' => e = .returned (.string (txt 64 (v * 2 ^ (64 - n) + (2 ^ (64 - n) - 1)))) ∧ Ext w w' := by
  have h := fill_c n v 1 { data := #[49] } hn (by omega) (chr_eq 1 (by omega)) w
  rwa [fillV, Nat.one_mul] at h

theorem up_lt (n v : Nat) (hn : n ≤ 64) (hv : v < 2 ^ n) : v * 2 ^ (64 - n) + (2 ^ (64 - n) - 1) < 2 ^ 64 := by
  have hp : 0 < 2 ^ (64 - n) := Nat.pow_pos (by omega)
  have h := Nat.mul_le_mul_right (2 ^ (64 - n)) (show v + 1 ≤ 2 ^ n from hv)
  rw [← Nat.pow_add, show n + (64 - n) = 64 from by omega, Nat.add_mul, Nat.one_mul] at h
  omega
theorem of_c (n v : Nat) (hn : n ≤ 64) (hv : v < 2 ^ n) (w : World) :
    Calls Try.prog 44 #[.string (txt n v)] w fun e w' => e = .returned (labV (n : Int) (v * 2 ^ (64 - n))) ∧ Ext w w' := by
  have hu := up_lt n v hn hv
  have hF : Says 82 _ _ := fill0_c n v hn
  have hN : Says 81 _ _ := number_c (v * 2 ^ (64 - n)) (by omega)
  have hsz := txt_size n v
  generalize txt n v = s at *
  generalize txt 64 (v * 2 ^ (64 - n)) = t at *
  generalize v * 2 ^ (64 - n) = u at *
  clear hu hv
  have hs1 : (s.size : Int) = (n : Int) := by omega
  clear hsz
  go_enter Try.func44, Try.ntmps44
  have hm := Mem.refl w []
  go_wp2_with ((first | refine wpList_skip (by rfl) ?_ | (refine wlL (hm := hm) (hu := by first | exact undLabel) (hi := by (try simp only [rowOf_size]); first | exact sizeLabel) (h := ?_); (try simp only [Act.put, k1, k2, k3]); (try simp only [← labV_eq])) | refine wlLC (hm := hm) (hu := by first | exact undInt | exact undU64) (h := ?_) | (refine wlS (hm := hm) (hv := (by first | rfl | exact idV_eq _ | exact labV_eq _ _ | exact rectV_eq _ _ _ _)) (hi := by (try simp only [rowOf_size]); first | exact sizeLabel) (hs := by first | (simp only [rowOf_size]; done) | rfl) (h := ?_); clear hm; intro w1 hm; (try simp only [rowOf_set, k1, k2, k3, Value.cells, Act.eval, k7, k8, k9, kA, Option.getD_some] at hm)) | (refine wlSC (hm := hm) (hi := by first | exact sizeInt | exact sizeU64) (ho := by first | decide | (simp only [rowOf_size]; omega) | (simp; done)) (h := ?_); clear hm; intro w1 hm; (try simp only [rowOf_set, k1, k2, k3, Value.cells, Act.eval, k7, k8, k9, kA, Option.getD_some] at hm)) | (refine wlA (hz := by first | exact zeroLabel) (hm := hm) (h := ?_); clear hm; intro b1 w1 hm; (try simp only [rowOf_set, k1, k2, k3, Value.cells, Act.eval, k7, k8, k9, kA, Option.getD_some] at hm)) | (refine wl_box (by rfl) rfl (by first | exact idV_cells _ | exact labV_cells _ _ | exact rectV_cells _ _ _ _ | rfl) hm ?_; clear hm; intro b1 w1 hm) | (refine wl_build (by rfl) (built_zeroL) rfl ?_; (try simp only [Act.put, k1, k2, k3]); (try simp only [← labV_eq])) | (refine wl_build (by rfl) (built_lab _ _) rfl ?_; (try simp only [Act.put, k1, k2, k3]); (try simp only [← labV_eq])) | (go_at_call 82; refine (hF _).mono ?_; rintro e w1 ⟨rfl, hx⟩; replace hm := hm.call hx; clear hx) | (go_at_call 81; refine (hN _).mono ?_; rintro e w1 ⟨rfl, hx⟩; replace hm := hm.call hx; clear hx)); (try simp only [k4, k5, k6, Act.put, k1, k2, k3]))
  refine bodyPost_ret (results_cell_row (h := rfl) _ _ _ _ _ _ _ rfl (hm.heap (i := 0) rfl) undLabel rfl (by first | exact sizeLabel | (simp only [rowOf_size]; exact sizeLabel))) rfl ?_
  exact ⟨by simp only [labV_eq]; try rfl, hm.ext⟩

theorem top_lt (n b : Nat) (hn : n ≤ 64) (hb : b < 2 ^ 64) : b / 2 ^ (64 - n) < 2 ^ n := by
  refine Nat.div_lt_of_lt_mul ?_
  rw [← Nat.pow_add, show 64 - n + n = 64 from by omega]; exact hb
theorem refIs_c (len : Int) (b : Nat) (hb : b < 2 ^ 64) (w : World) :
    Calls Try.prog 16 #[labV len b] w fun e w' => e = .returned (.bool (isL len b)) ∧ Ext w w' := by
  by_cases h0 : 0 ≤ len
  · by_cases h64 : len ≤ 64
    · obtain ⟨n, rfl⟩ := Int.eq_ofNat_of_zero_le h0
      have hn : n ≤ 64 := by omega
      have e : isL (n : Int) b = eqLab (n : Int) (hd b n) (n : Int) b := by
        rw [Bool.eq_iff_iff, isL_iff, eqLab, Bool.and_eq_true, beq_iff_eq, beq_iff_eq, Int.toNat_natCast]; exact ⟨fun h => ⟨rfl, h.2.2⟩, fun h => ⟨by omega, by omega, h.2⟩⟩
      rw [e]
      clear e
      have hO : Says 44 _ _ := of_c n (b / 2 ^ (64 - n)) hn (top_lt n b hn hb)
      rw [← hd_eq] at hO
      have hS := slice_to (n := n) (by rw [txt_size]; exact hn) (txt_take 64 n b hn)
      have d0 : decide ((n : Int) < 0) = false := decide_eq_false (by omega)
      have d1 : decide ((64 : Int) < (n : Int)) = false := decide_eq_false (by omega)
      generalize txt n (b / 2 ^ (64 - n)) = t at *
      generalize hd b n = h at *
      clear h0 h64
      go_enter Try.func16, Try.ntmps16
      have hm := Mem.refl w []
      go_wp2_with ((first | refine wpList_skip (by rfl) ?_ | (refine wlL (hm := hm) (hu := by first | exact undLabel) (hi := by (try simp only [rowOf_size]); first | exact sizeLabel) (h := ?_); (try simp only [Act.put, k1, k2, k3]); (try simp only [← labV_eq])) | refine wlLC (hm := hm) (hu := by first | exact undInt | exact undU64) (h := ?_) | (refine wlS (hm := hm) (hv := (by first | rfl | exact idV_eq _ | exact labV_eq _ _ | exact rectV_eq _ _ _ _)) (hi := by (try simp only [rowOf_size]); first | exact sizeLabel) (hs := by first | (simp only [rowOf_size]; done) | rfl) (h := ?_); clear hm; intro w1 hm; (try simp only [rowOf_set, k1, k2, k3, Value.cells, Act.eval, k7, k8, k9, kA, Option.getD_some] at hm)) | (refine wlSC (hm := hm) (hi := by first | exact sizeInt | exact sizeU64) (ho := by first | decide | (simp only [rowOf_size]; omega) | (simp; done)) (h := ?_); clear hm; intro w1 hm; (try simp only [rowOf_set, k1, k2, k3, Value.cells, Act.eval, k7, k8, k9, kA, Option.getD_some] at hm)) | (refine wlA (hz := by first | exact zeroLabel) (hm := hm) (h := ?_); clear hm; intro b1 w1 hm; (try simp only [rowOf_set, k1, k2, k3, Value.cells, Act.eval, k7, k8, k9, kA, Option.getD_some] at hm)) | (refine wl_box (by rfl) rfl (by first | exact idV_cells _ | exact labV_cells _ _ | exact rectV_cells _ _ _ _ | rfl) hm ?_; clear hm; intro b1 w1 hm) | (refine wl_build (by rfl) (built_zeroL) rfl ?_; (try simp only [Act.put, k1, k2, k3]); (try simp only [← labV_eq])) | (refine wl_build (by rfl) (built_lab _ _) rfl ?_; (try simp only [Act.put, k1, k2, k3]); (try simp only [← labV_eq])) | (go_at_call 45; refine (refBits_c _ hb _).mono ?_; rintro e w1 ⟨rfl, hx⟩; replace hm := hm.call hx; clear hx) | (go_at_call 44; refine (hO _).mono ?_; rintro e w1 ⟨rfl, hx⟩; replace hm := hm.call hx; clear hx)); (try simp only [k4, k5, k6, Act.put, k1, k2, k3]))
      go_wp2_with (with_reducible first | refine stAl ?_ | refine stBo ?_ | refine stLo ?_ | refine stSo ?_ | refine stBu ?_ | refine stBs ?_ | refine stMs ?_ | refine stAp ?_ | refine stCo ?_); refine wp_quiet_mem (by kernel_rfl) (by kernel_rfl) hm ?_
      repeat ((first | refine wq_skip (by rfl) ?_ | (refine wqL (hu := by first | exact undLabel) (hi := by (try simp only [rowOf_size]); first | exact sizeLabel) (h := ?_); (try simp only [Act.put, k1, k2, k3]); (try simp only [← labV_eq])) | refine wqLC (hu := by first | exact undInt | exact undU64) (h := ?_) | ((with_reducible show wpQuiet _ _ _ _ (⟨_, .call _, _, _, _, _⟩ :: _) _); refine wq_ask (by rfl) ?_; apply Exists.intro; refine ⟨?_, ?_⟩; (focus (intro w hC; go_simp; first | (go_at_call 45; exact (refBits_c _ hb _).mono fun e w' h => ⟨h.1, hC.call h.2⟩) | (go_at_call 44; exact (hO _).mono fun e w' h => ⟨h.1, hC.call h.2⟩)))) | (refine wq_build (by rfl) (built_zeroL) rfl ?_; (try simp only [Act.put, k1, k2, k3]); (try simp only [← labV_eq])) | (refine wq_build (by rfl) (built_lab _ _) rfl ?_; (try simp only [Act.put, k1, k2, k3]); (try simp only [← labV_eq])) | refine wqS (h := ?_)); (try simp only [k4, k5, k6, Act.put, k1, k2, k3]))
      refine wpQuiet_nil ?_; clear hm; intro w2 hm
      go_wp2_with ((first | refine wpList_skip (by rfl) ?_ | (refine wlL (hm := hm) (hu := by first | exact undLabel) (hi := by (try simp only [rowOf_size]); first | exact sizeLabel) (h := ?_); (try simp only [Act.put, k1, k2, k3]); (try simp only [← labV_eq])) | refine wlLC (hm := hm) (hu := by first | exact undInt | exact undU64) (h := ?_) | (refine wlS (hm := hm) (hv := (by first | rfl | exact idV_eq _ | exact labV_eq _ _ | exact rectV_eq _ _ _ _)) (hi := by (try simp only [rowOf_size]); first | exact sizeLabel) (hs := by first | (simp only [rowOf_size]; done) | rfl) (h := ?_); clear hm; intro w1 hm; (try simp only [rowOf_set, k1, k2, k3, Value.cells, Act.eval, k7, k8, k9, kA, Option.getD_some] at hm)) | (refine wlSC (hm := hm) (hi := by first | exact sizeInt | exact sizeU64) (ho := by first | decide | (simp only [rowOf_size]; omega) | (simp; done)) (h := ?_); clear hm; intro w1 hm; (try simp only [rowOf_set, k1, k2, k3, Value.cells, Act.eval, k7, k8, k9, kA, Option.getD_some] at hm)) | (refine wlA (hz := by first | exact zeroLabel) (hm := hm) (h := ?_); clear hm; intro b1 w1 hm; (try simp only [rowOf_set, k1, k2, k3, Value.cells, Act.eval, k7, k8, k9, kA, Option.getD_some] at hm)) | (refine wl_box (by rfl) rfl (by first | exact idV_cells _ | exact labV_cells _ _ | exact rectV_cells _ _ _ _ | rfl) hm ?_; clear hm; intro b1 w1 hm) | (refine wl_build (by rfl) (built_zeroL) rfl ?_; (try simp only [Act.put, k1, k2, k3]); (try simp only [← labV_eq])) | (refine wl_build (by rfl) (built_lab _ _) rfl ?_; (try simp only [Act.put, k1, k2, k3]); (try simp only [← labV_eq])) | (go_at_call 45; refine (refBits_c _ hb _).mono ?_; rintro e w1 ⟨rfl, hx⟩; replace hm := hm.call hx; clear hx) | (go_at_call 44; refine (hO _).mono ?_; rintro e w1 ⟨rfl, hx⟩; replace hm := hm.call hx; clear hx)); (try simp only [k4, k5, k6, Act.put, k1, k2, k3]))
      go_ret
      exact ⟨rfl, hm.ext⟩
    · have e : isL len b = false := by
        unfold isL; rw [decide_eq_false_iff_not]; omega
      rw [e]
      clear e
      have d0 : decide (len < 0) = false := decide_eq_false (by omega)
      have d1 : decide ((64 : Int) < len) = true := decide_eq_true (by omega)
      have hO : True := trivial
      go_enter Try.func16, Try.ntmps16
      have hm := Mem.refl w []
      go_wp2_with ((first | refine wpList_skip (by rfl) ?_ | (refine wlL (hm := hm) (hu := by first | exact undLabel) (hi := by (try simp only [rowOf_size]); first | exact sizeLabel) (h := ?_); (try simp only [Act.put, k1, k2, k3]); (try simp only [← labV_eq])) | refine wlLC (hm := hm) (hu := by first | exact undInt | exact undU64) (h := ?_) | (refine wlS (hm := hm) (hv := (by first | rfl | exact idV_eq _ | exact labV_eq _ _ | exact rectV_eq _ _ _ _)) (hi := by (try simp only [rowOf_size]); first | exact sizeLabel) (hs := by first | (simp only [rowOf_size]; done) | rfl) (h := ?_); clear hm; intro w1 hm; (try simp only [rowOf_set, k1, k2, k3, Value.cells, Act.eval, k7, k8, k9, kA, Option.getD_some] at hm)) | (refine wlSC (hm := hm) (hi := by first | exact sizeInt | exact sizeU64) (ho := by first | decide | (simp only [rowOf_size]; omega) | (simp; done)) (h := ?_); clear hm; intro w1 hm; (try simp only [rowOf_set, k1, k2, k3, Value.cells, Act.eval, k7, k8, k9, kA, Option.getD_some] at hm)) | (refine wlA (hz := by first | exact zeroLabel) (hm := hm) (h := ?_); clear hm; intro b1 w1 hm; (try simp only [rowOf_set, k1, k2, k3, Value.cells, Act.eval, k7, k8, k9, kA, Option.getD_some] at hm)) | (refine wl_box (by rfl) rfl (by first | exact idV_cells _ | exact labV_cells _ _ | exact rectV_cells _ _ _ _ | rfl) hm ?_; clear hm; intro b1 w1 hm) | (refine wl_build (by rfl) (built_zeroL) rfl ?_; (try simp only [Act.put, k1, k2, k3]); (try simp only [← labV_eq])) | (refine wl_build (by rfl) (built_lab _ _) rfl ?_; (try simp only [Act.put, k1, k2, k3]); (try simp only [← labV_eq]))); (try simp only [k4, k5, k6, Act.put, k1, k2, k3]))
      go_ret
      exact ⟨rfl, hm.ext⟩
  · have e : isL len b = false := by
      unfold isL; rw [decide_eq_false_iff_not]; omega
    rw [e]
    clear e
    have d0 : decide (len < 0) = true := decide_eq_true (by omega)
    go_enter Try.func16, Try.ntmps16
    have hm := Mem.refl w []
    go_wp2_with ((first | refine wpList_skip (by rfl) ?_ | (refine wlL (hm := hm) (hu := by first | exact undLabel) (hi := by (try simp only [rowOf_size]); first | exact sizeLabel) (h := ?_); (try simp only [Act.put, k1, k2, k3]); (try simp only [← labV_eq])) | refine wlLC (hm := hm) (hu := by first | exact undInt | exact undU64) (h := ?_) | (refine wlS (hm := hm) (hv := (by first | rfl | exact idV_eq _ | exact labV_eq _ _ | exact rectV_eq _ _ _ _)) (hi := by (try simp only [rowOf_size]); first | exact sizeLabel) (hs := by first | (simp only [rowOf_size]; done) | rfl) (h := ?_); clear hm; intro w1 hm; (try simp only [rowOf_set, k1, k2, k3, Value.cells, Act.eval, k7, k8, k9, kA, Option.getD_some] at hm)) | (refine wlSC (hm := hm) (hi := by first | exact sizeInt | exact sizeU64) (ho := by first | decide | (simp only [rowOf_size]; omega) | (simp; done)) (h := ?_); clear hm; intro w1 hm; (try simp only [rowOf_set, k1, k2, k3, Value.cells, Act.eval, k7, k8, k9, kA, Option.getD_some] at hm)) | (refine wlA (hz := by first | exact zeroLabel) (hm := hm) (h := ?_); clear hm; intro b1 w1 hm; (try simp only [rowOf_set, k1, k2, k3, Value.cells, Act.eval, k7, k8, k9, kA, Option.getD_some] at hm)) | (refine wl_box (by rfl) rfl (by first | exact idV_cells _ | exact labV_cells _ _ | exact rectV_cells _ _ _ _ | rfl) hm ?_; clear hm; intro b1 w1 hm) | (refine wl_build (by rfl) (built_zeroL) rfl ?_; (try simp only [Act.put, k1, k2, k3]); (try simp only [← labV_eq])) | (refine wl_build (by rfl) (built_lab _ _) rfl ?_; (try simp only [Act.put, k1, k2, k3]); (try simp only [← labV_eq]))); (try simp only [k4, k5, k6, Act.put, k1, k2, k3]))
    go_ret
    exact ⟨rfl, hm.ext⟩

end Go.Proofs.Ytijkmbebfodhdaa

/- (Shelf5)
  DERIVED: THE SHELF's CONTRACTS AT THIS DUMP, IN PLAIN WORDS (tools/lay-plain.mjs out of 'TryShelf.lean', which tools/lay-shelf.mjs wrote): THE SAME DECLARATIONS UNDER THE SAME NAMES: 'import', 'namespace', 'open', 'def', 'theorem' AND NOTHING ELSE: no command of the shelf's: FOR A HAND-IN. Each laying: the table of numbers ('.._ren') and one theorem, a field a fact of the dump's own or the kernel's comparison; each contract: ONE APPLICATION.
-/
namespace Go.Proofs
open Go.Shelf
def Try.lays129_ren : Go.Shelf.Ren := ⟨fun | 129 => 83 | n => n, fun | 53 => 22 | 3 => 3 | 4 => 4 | 46 => 73 | 5 => 5 | 9 => 9 | n => n, fun | n => n⟩
theorem Try.lays129 : Go.Proofs.Lays.n129 Try.prog Try.lays129_ren := {
  mixed := by kernel_rfl
  f129 := Try.func83.trans (congrArg some (by kernel_rfl))
  t3 := Try.underlying3
  a3 := Try.isAgg3
  z3 := Try.sizeOf3
  v3 := Try.zeroValue3
  t4 := Try.underlying4
  a4 := Try.isAgg4
  z4 := Try.sizeOf4
  v4 := Try.zeroValue4
  t5 := Try.underlying5
  a5 := Try.isAgg5
  z5 := Try.sizeOf5
  v5 := Try.zeroValue5
  t9 := Try.underlying9
  a9 := Try.isAgg9
  z9 := Try.sizeOf9
  v9 := Try.zeroValue9
  t46 := Try.underlying73
  a46 := Try.isAgg73
  z46 := Try.sizeOf73
  v46 := Try.zeroValue73
  t53 := Try.underlying22
  a53 := Try.isAgg22
  z53 := Try.sizeOf22
  v53 := Try.zeroValue22 }
/-- bits.Len64: "Len64 returns the minimum number of bits required to represent x; the result is 0 for x == 0.": IT RETURNS 'Lib.bitLen x'; the world is as it was. ('h0', 'h1': x is a uint64.) (LAID: no walk: one application.) -/
theorem Try.bits_Len64 (x : Int) (w : World) (h0 : 0 ≤ x) (h1 : x ≤ 18446744073709551615) :
    Calls Try.prog 83 #[.int .u64 x] w fun e w' => e = .returned (.int .i64 (Lib.bitLen x.toNat)) ∧ w' = w := Any.bits_Len64 Try.lays129 x w h0 h1
end Go.Proofs

/- (Mem7)
  The symbolic heap, continued: callees that own blocks of ours; bytes of a string appended.
-/
namespace Go.Proofs.Ytijkmbebfodhdaa
open Go.RowKit
set_option linter.unusedSimpArgs false
set_option linter.unusedVariables false

theorem Mem.start {w : World} {b : Nat} {o : Obj} (h : w.heap[b]? = some o) : Mem w [b] [(b, o)] w :=
  ⟨rfl, rfl, rfl, Nat.le_refl _, fun _ _ _ => rfl, fun p hp => by rw [List.mem_singleton.1 hp]; exact h, fun p hp => by rw [List.mem_singleton.1 hp]; exact Or.inr (List.mem_singleton.2 rfl),
   fun i j p q hi hj _ => by
    have h1 := (List.getElem?_eq_some_iff.1 hi).1
    have h2 := (List.getElem?_eq_some_iff.1 hj).1
    simp at h1 h2
    omega⟩
theorem Mem.start2 {w : World} {b c : Nat} {o u : Obj} (h : w.heap[b]? = some o) (k : w.heap[c]? = some u) (hbc : b ≠ c) : Mem w [b, c] [(b, o), (c, u)] w :=
  ⟨rfl, rfl, rfl, Nat.le_refl _, fun _ _ _ => rfl, fun p hp => by
    rcases List.mem_cons.1 hp with rfl | hp
    · exact h
    · rw [List.mem_singleton.1 hp]; exact k,
   fun p hp => by
    rcases List.mem_cons.1 hp with rfl | hp
    · exact Or.inr (List.mem_cons_self ..)
    · rw [List.mem_singleton.1 hp]; exact Or.inr (List.mem_cons_of_mem _ (List.mem_cons_self ..)),
   fun i j p q hi hj e => by
    match i, j with
    | 0, 0 => rfl
    | 0, 1 => simp at hi hj; rw [← hi, ← hj] at e; exact (hbc e).elim
    | 1, 0 => simp at hi hj; rw [← hi, ← hj] at e; exact (hbc e.symm).elim
    | 1, 1 => rfl
    | i + 2, _ => simp at hi
    | 0, j + 2 => simp at hj
    | 1, j + 2 => simp at hj⟩

theorem Mem.ne {w0 w : World} {own : List Nat} {L : List (Nat × Obj)} (h : Mem w0 own L w) {i j : Nat} {p q : Nat × Obj} (hi : L[i]? = some p) (hj : L[j]? = some q) (hij : i ≠ j) : p.1 ≠ q.1 := fun e => hij (h.apart i j p q hi hj e)

/-- Behind a callee that owned the blocks of B: it hands M back. -/
theorem Mem.callOwn {w0 w w' : World} {own : List Nat} {A B M : List (Nat × Obj)} (h : Mem w0 own (B ++ A) w) (hx : Mem w (B.map (·.1)) M w') : Mem w0 own (M ++ A) w' := by
  have far : ∀ p, p ∈ A → p.1 ∉ B.map (·.1) := fun p hp hq => by
    obtain ⟨q, hqB, e⟩ := List.mem_map.1 hq
    obtain ⟨i, hi⟩ := List.mem_iff_getElem?.1 hqB
    obtain ⟨j, hj⟩ := List.mem_iff_getElem?.1 hp
    have hil : i < B.length := (List.getElem?_eq_some_iff.1 hi).1
    have := h.apart i (B.length + j) q p (by rw [List.getElem?_append_left hil]; exact hi) (by rw [List.getElem?_append_right (by omega), Nat.add_sub_cancel_left]; exact hj) e
    omega
  have inA : ∀ p, p ∈ A → p ∈ B ++ A := fun p hp => List.mem_append.2 (Or.inr hp)
  have mayM : ∀ p, p ∈ M → w.heap.size ≤ p.1 ∨ p.1 ∈ B.map (·.1) := hx.may
  refine ⟨hx.os.trans h.os, hx.tape.trans h.tape, hx.output.trans h.output, Nat.le_trans h.size hx.size, fun k hk hn => ?_, fun p hp => ?_, fun p hp => ?_, fun i j p q hi hj e => ?_⟩
  · have hkB : k ∉ B.map (·.1) := fun hq => by
      obtain ⟨q, hqB, e⟩ := List.mem_map.1 hq
      rcases h.may q (List.mem_append.2 (Or.inl hqB)) with hm | hm
      · omega
      · exact hn (by rw [← e]; exact hm)
    rw [hx.old k (Nat.lt_of_lt_of_le hk h.size) hkB]
    exact h.old k hk hn
  · rcases List.mem_append.1 hp with hp | hp
    · exact hx.has p hp
    · rw [hx.old p.1 (h.lt (inA p hp)) (far p hp)]
      exact h.has p (inA p hp)
  · rcases List.mem_append.1 hp with hp | hp
    · rcases mayM p hp with hm | hm
      · exact Or.inl (Nat.le_trans h.size hm)
      · obtain ⟨q, hqB, e⟩ := List.mem_map.1 hm
        rw [← e]
        exact h.may q (List.mem_append.2 (Or.inl hqB))
    · exact h.may p (inA p hp)
  · have apartAM : ∀ (p q : Nat × Obj), p ∈ M → q ∈ A → p.1 ≠ q.1 := fun p q hp hq e => by
      rcases mayM p hp with hm | hm
      · have := h.lt (inA q hq); omega
      · exact far q hq (by rw [← e]; exact hm)
    by_cases hiM : i < M.length
    · rw [List.getElem?_append_left hiM] at hi
      by_cases hjM : j < M.length
      · rw [List.getElem?_append_left hjM] at hj
        exact hx.apart i j p q hi hj e
      · rw [List.getElem?_append_right (by omega)] at hj
        exact (apartAM p q (List.mem_of_getElem? hi) (List.mem_of_getElem? hj) e).elim
    · rw [List.getElem?_append_right (by omega)] at hi
      by_cases hjM : j < M.length
      · rw [List.getElem?_append_left hjM] at hj
        exact (apartAM q p (List.mem_of_getElem? hj) (List.mem_of_getElem? hi) e.symm).elim
      · rw [List.getElem?_append_right (by omega)] at hj
        have := h.apart (B.length + (i - M.length)) (B.length + (j - M.length)) p q (by rw [List.getElem?_append_right (by omega), Nat.add_sub_cancel_left]; exact hi) (by rw [List.getElem?_append_right (by omega), Nat.add_sub_cancel_left]; exact hj) e
        omega

theorem Mem.shape {w0 w : World} {own : List Nat} {L : List (Nat × Obj)} (h : Mem w0 own L w) {i b : Nat} {cs : Array Value} {T : TypeId} {fr : Nat × Nat} (hL : L[i]? = some (b, .cells cs T fr)) : w.shape? b = some (T, cs.size) := by
  simp [World.shape?, h.heap hL]

section
variable {P : Program} {ops : Array Oper} {Q : Exit → Act → World → Prop} {rest : List Oper} {a : Act} {w0 w : World} {own : List Nat} {L : List (Nat × Obj)}
  {dst : Option Tmp} {ty : TypeId} {pos : String} {aft : Array Edge} {gd : Option (Nat × Bool)} {K : Act → World → Prop}
/-- 'append' of a string's bytes onto a nil slice. -/
theorem ow_append_nil_str {T U E : TypeId} {x y : Operand} {s : ByteArray} (hm : Mem w0 own L w) (hel : El P T E 1 1 (.int .u8 0)) (hu : P.underlying U = some .string) (hx : a.eval x = .slice none 0 0) (hy : a.eval y = .string s) (h0 : 0 < s.size) (hb : s.size ≤ 140737488355328)
    (h : ∀ g' cap' cur' w', Mem w0 own ((g', .cells cur' E (0, 0)) :: L) w' → s.size ≤ cap' → cap' < 2 ^ 63 → cur'.size = cap' → (∀ j, j < s.size → cur'[j]? = (s.data.toList[j]?).map fun b => .int .u8 b.toNat) →
      K (a.put dst (.slice (some ⟨g', 0, none⟩) s.size cap')) w') : Oper.wp P ⟨dst, .call ⟨.builtin .append, #[x, y], #[T, U]⟩, ty, pos, aft, gd⟩ a w K Q := by
  obtain ⟨ht, it, hi, hs1, hby, hzz⟩ := hel
  have hr := run_append_nil_string (P := P) w T U ty E it (.int .u8 0) ht hu hi hzz s h0 (by omega) (by rw [hby]; omega)
  unfold Oper.wp execOp
  simp only [resolve, invoke, builtin, Sem.run_bind, Sem.run_pure, Result.andThen_ok, List.map_toArray, List.map_cons, List.map_nil, hx, hy, hr]
  have hge := grownCap_le w s.size 0 E
  have hsd : s.data.size = s.size := rfl
  refine h _ _ _ _ (hm.drew.alloc _) hge (grownCap_max w _ _ _ (by omega)) ?_ ?_
  · simp only [Array.size_append, Array.size_map, zeroCells_size, hsd]
    show s.size + (grownCap w s.size 0 E - s.size) * 1 = _
    omega
  · intro j hj
    rw [Array.getElem?_append_left (by rw [Array.size_map, hsd]; exact hj), Array.getElem?_map, ← Array.getElem?_toList]
end
end Go.Proofs.Ytijkmbebfodhdaa

/- (Mem9)
  The symbolic heap, continued: a region that reads a row, and appends to it at last.
-/
namespace Go.Proofs.Ytijkmbebfodhdaa
open Go.RowKit
set_option linter.unusedSimpArgs false
set_option linter.unusedVariables false

/-- The first n cells of block g read as F says; L tells other blocks. -/
def KeepS (w0 : World) (own : List Nat) (L : List (Nat × Obj)) (g n : Nat) (F : Nat → Value) (w : World) : Prop := Mem w0 own L w ∧ ∀ j, j < n → w.cell? ⟨g, j, none⟩ = some (F j)
section
variable {P : Program} {ops : Array Oper} {Q : Exit → Act → World → Prop} {rest : List Oper} {a : Act} {w0 w w' : World} {own : List Nat} {L : List (Nat × Obj)}
  {dst : Option Tmp} {ty : TypeId} {pos : String} {aft : Array Edge} {gd : Option (Nat × Bool)} {K : Act → World → Prop} {g n : Nat} {F : Nat → Value}
theorem cell_ext (hx : Ext w w') {b j : Nat} {v : Value} (h : w.cell? ⟨b, j, none⟩ = some v) : w'.cell? ⟨b, j, none⟩ = some v := by
  have hb : b < w.heap.size := by
    rcases Nat.lt_or_ge b w.heap.size with h' | h'
    · exact h'
    · simp [World.cell?, Array.getElem?_eq_none h'] at h
  have he := hx.old b hb (by simp)
  simp only [World.cell?] at h ⊢
  rw [he]; exact h
theorem KeepS.call (h : KeepS w0 own L g n F w) (hx : Ext w w') : KeepS w0 own L g n F w' := ⟨h.1.call hx, fun j hj => cell_ext hx (h.2 j hj)⟩
theorem Mem.keep {cur : Array Value} {E : TypeId} {fr : Nat × Nat} (h : Mem w0 own ((g, .cells cur E fr) :: L) w) (hc : ∀ j, j < n → cur[j]? = some (F j)) : KeepS w0 own L g n F w :=
  ⟨h.tail, fun j hj => by rw [h.cell (i := 0) rfl, hc j hj]⟩
theorem ld_keep {T : TypeId} {x : Operand} {off : Nat} {d : TypeDesc} (hx : a.eval x = .pointer (some ⟨g, off, none⟩)) (ho : off < n)
    (hu : P.underlying T = some d) (hd : (match d with | .struct _ | .array _ _ => true | _ => false) = false) :
    ∀ w, KeepS w0 own L g n F w → (execOp a.eval ⟨dst, .load T x, ty, pos, aft, gd⟩).run P w = .ok (.value (F off)) w := fun w hC => by
  have hagg : (isAgg T).run P w = .ok false w := by
    unfold isAgg
    rw [Sem.run_bind, run_underlying hu w]
    cases d <;> simp_all
  have hcell := hC.2 off ho
  unfold execOp
  simp [hx, Instr.loadAt, Instr.sureAddr, Sem.run_bind, loadVar, hagg, hcell]

/-- 'append' onto a slice that begins at the head of a block of ours: the old block's first cells stand. -/
theorem ow_append_keep {T E : TypeId} {sz bytes : Nat} {z : Value} {x y : Operand} {g i n cap m c : Nat} {cur : Array Value} {ad : Addr} {news : List Value} (hm : Mem w0 own L w) (hel : El P T E sz bytes z) (hz : z.cells.size = sz)
    (hL : L[i]? = some (g, .cells cur E (0, 0))) (hx : a.eval x = .slice (some ⟨g, 0, none⟩) n cap) (hy : a.eval y = .slice (some ad) m c) (hcap : n ≤ cap) (hcur : cur.size = cap * sz)
    (hl : news.length = m * sz) (hnews : ∀ j u, news[j]? = some u → w.cell? (ad.add j) = some u) (h1 : ∀ u ∈ news, u.oneCell' = true) (hb : (n + m) * bytes ≤ 140737488355328) (hb' : n + m < 2 ^ 63)
    (h : ∀ g' cap' cur' w', Mem w0 own (L.set i (g', .cells cur' E (0, 0))) w' → n + m ≤ cap' → (cap < 2 ^ 63 → cap' < 2 ^ 63) → cur'.size = cap' * sz → (∀ j, j < n * sz → cur'[j]? = cur[j]?) → (∀ j, j < m * sz → cur'[n * sz + j]? = news[j]?) →
      (∀ j v, j < n * sz → cur[j]? = some v → w'.cell? ⟨g, j, none⟩ = some v) →
      K (a.put dst (.slice (some ⟨g', 0, none⟩) (n + m) cap')) w') : Oper.wp P ⟨dst, .call ⟨.builtin .append, #[x, y], #[T, T]⟩, ty, pos, aft, gd⟩ a w K Q := by
  obtain ⟨ht, it, hi, rfl, rfl, hzz⟩ := hel
  have hcells : ∀ j v, (cur.toList.take (n * it.size))[j]? = some v → w.cell? ((⟨g, 0, none⟩ : Addr).add j) = some v := fun j v hv => by
    rw [Addr.add_mid, hm.cell hL]
    rw [List.getElem?_take] at hv
    split at hv
    · simpa using hv
    · cases hv
  have hle : n * it.size ≤ cap * it.size := Nat.mul_le_mul_right _ hcap
  by_cases hroom : n + m ≤ cap
  · have hfit : n * it.size + news.length ≤ cur.size := by rw [hl, hcur, ← Nat.add_mul]; exact Nat.mul_le_mul_right _ hroom
    have hr := run_append_room (P := P) w T ty E it ht hi g n cap cur (hm.heap hL) ad m c news hl hnews h1 hroom hfit
    have hrow := hm.setRow hL (cur.toList.take (n * it.size) ++ news ++ cur.toList.drop (n * it.size + news.length)).toArray
    have hfirst : ∀ j, j < n * it.size → ((cur.toList.take (n * it.size) ++ news ++ cur.toList.drop (n * it.size + news.length)).toArray)[j]? = cur[j]? := fun j hj => by
      have : j < cur.toList.length := by simp; omega
      simp only [List.getElem?_toArray, List.append_assoc]
      rw [List.getElem?_append_left (by simp; omega), List.getElem?_take, if_pos hj]
      simp
    unfold Oper.wp execOp
    simp only [resolve, invoke, builtin, Sem.run_bind, Sem.run_pure, Result.andThen_ok, List.map_toArray, List.map_cons, List.map_nil, hx, hy, hr]
    refine h g cap _ _ hrow hroom id ?_ hfirst ?_ ?_
    · simp; rw [hl] at hfit ⊢; omega
    · intro j hj
      simp only [List.getElem?_toArray, List.append_assoc]
      have e : (cur.toList.take (n * it.size)).length = n * it.size := by simp; omega
      rw [List.getElem?_append_right (by omega), e, Nat.add_sub_cancel_left, List.getElem?_append_left (by omega)]
    · intro j v hj hv
      have hi' : i < L.length := (List.getElem?_eq_some_iff.1 hL).1
      rw [hrow.cell (i := i) (List.getElem?_set_self hi'), hfirst j hj, hv]
  · have hr := run_append_grow (P := P) w T ty E it z ht hi hzz ⟨g, 0, none⟩ n cap (cur.toList.take (n * it.size)) (by simp; omega) hcells ad m c news hl hnews (by omega) (by omega) (growslice_fits (by omega) hb)
    unfold Oper.wp execOp
    simp only [resolve, invoke, builtin, Sem.run_bind, Sem.run_pure, Result.andThen_ok, List.map_toArray, List.map_cons, List.map_nil, hx, hy, hr]
    have hge := grownCap_le w (n + m) cap E
    have hall := hm.drew.alloc (.cells ((cur.toList.take (n * it.size)).toArray ++ news.toArray ++ Builtin.zeroCells z.cells (grownCap w (n + m) cap E - (n + m))) E)
    refine h _ _ _ _ (hall.moved i) hge (fun _ => grownCap_max w _ _ _ hb') ?_ ?_ ?_ ?_
    · simp only [Array.size_append, List.size_toArray, zeroCells_size, hl, hz, List.length_take, Array.length_toList]
      rw [Nat.min_eq_left (by omega), ← Nat.add_mul, ← Nat.add_mul]
      congr 1
      omega
    · intro j hj
      have e : (cur.toList.take (n * it.size)).length = n * it.size := by simp; omega
      rw [Array.append_assoc, Array.getElem?_append_left (by simp; omega)]
      simp [List.getElem?_take, hj]
    · intro j hj
      have e : (cur.toList.take (n * it.size)).length = n * it.size := by simp; omega
      rw [Array.append_assoc, Array.getElem?_append_right (by simp; omega)]
      simp only [List.size_toArray, e, Nat.add_sub_cancel_left]
      rw [Array.getElem?_append_left (by simp; omega)]
      simp
    · intro j v hj hv
      rw [hall.cell (i := i + 1) (by simpa using hL), hv]
end
end Go.Proofs.Ytijkmbebfodhdaa

/- (Mem10)
  The symbolic heap, continued: a held region in which two or three operations are free at once.
-/
namespace Go.Proofs.Ytijkmbebfodhdaa
open Go.RowKit
set_option linter.unusedSimpArgs false
set_option linter.unusedVariables false
section
variable {P : Program} {md : Region.Mode} {ops : Array Oper} {Q : Exit → Act → World → Prop} {S : World → Prop} {fuel : Nat} {listed : Array Bool} {a : Act} {w0 w : World} {own : List Nat} {L : List (Nat × Obj)}
  {dst : Option Tmp} {ty : TypeId} {pos : String} {aft : Array Edge} {gd : Option (Nat × Bool)} {K : Act → World → Prop} {i j k : Nat} {oi oj ok : Oper}
theorem wh_ready2 (hr : Region.ready md ops listed = [i, j]) (hi : ops[i]? = some oi) (hj : ops[j]? = some oj) (wi : Region.wanted oi (yielded ops a.tmps) = true) (wj : Region.wanted oj (yielded ops a.tmps) = true)
    (h1 : ∀ K' : Act → World → Prop, Hid (∀ a w, S w → wpAnyH P md ops Q S fuel (listed.setIfInBounds i true) a w → K' a w) → Oper.wp P oi a w K' Q)
    (h2 : ∀ K' : Act → World → Prop, Hid (∀ a w, S w → wpAnyH P md ops Q S fuel (listed.setIfInBounds j true) a w → K' a w) → Oper.wp P oj a w K' Q) : wpAnyH P md ops Q S (fuel + 1) listed a w :=
  wpAnyH_all hr (by simp) fun m hm => by
    unfold wpOp
    rcases (by simpa using hm : m = i ∨ m = j) with rfl | rfl
    · simp only [hi, wi, if_true]; exact .inl (h1 _ fun _ _ h1 h2 => ⟨h1, h2⟩)
    · simp only [hj, wj, if_true]; exact .inl (h2 _ fun _ _ h1 h2 => ⟨h1, h2⟩)
theorem wh_ready3 (hr : Region.ready md ops listed = [i, j, k]) (hi : ops[i]? = some oi) (hj : ops[j]? = some oj) (hk : ops[k]? = some ok) (wi : Region.wanted oi (yielded ops a.tmps) = true) (wj : Region.wanted oj (yielded ops a.tmps) = true)
    (wk : Region.wanted ok (yielded ops a.tmps) = true)
    (h1 : ∀ K' : Act → World → Prop, Hid (∀ a w, S w → wpAnyH P md ops Q S fuel (listed.setIfInBounds i true) a w → K' a w) → Oper.wp P oi a w K' Q)
    (h2 : ∀ K' : Act → World → Prop, Hid (∀ a w, S w → wpAnyH P md ops Q S fuel (listed.setIfInBounds j true) a w → K' a w) → Oper.wp P oj a w K' Q)
    (h3 : ∀ K' : Act → World → Prop, Hid (∀ a w, S w → wpAnyH P md ops Q S fuel (listed.setIfInBounds k true) a w → K' a w) → Oper.wp P ok a w K' Q) : wpAnyH P md ops Q S (fuel + 1) listed a w :=
  wpAnyH_all hr (by simp) fun m hm => by
    unfold wpOp
    rcases (by simpa using hm : m = i ∨ m = j ∨ m = k) with rfl | rfl | rfl
    · simp only [hi, wi, if_true]; exact .inl (h1 _ fun _ _ h1 h2 => ⟨h1, h2⟩)
    · simp only [hj, wj, if_true]; exact .inl (h2 _ fun _ _ h1 h2 => ⟨h1, h2⟩)
    · simp only [hk, wk, if_true]; exact .inl (h3 _ fun _ _ h1 h2 => ⟨h1, h2⟩)
theorem ow_alloc {T : TypeId} {z : Value} {cs : Array Value} (hz : (P.info? T).bind (·.zero) = some z) (hc : z.cells = cs) (hm : Mem w0 own L w)
    (h : ∀ b w', Mem w0 own ((b, .cells cs T) :: L) w' → K (a.put dst (.pointer (some ⟨b, 0, none⟩))) w') : Oper.wp P ⟨dst, .alloc T, ty, pos, aft, gd⟩ a w K Q := by
  unfold Oper.wp execOp
  simp only [Instr.alloc, Sem.run_bind, zero_run hz, Result.andThen_ok, newVar, newRow, hc, run_newObj_alloc, Sem.run_pure, Oper.upon]
  exact h _ _ (hm.alloc _)
theorem Mem.swap {p q : Nat × Obj} (h : Mem w0 own (p :: q :: L) w) : Mem w0 own (q :: p :: L) w := by
  have hall : ∀ x, x ∈ q :: p :: L → x ∈ p :: q :: L := fun x hx => by
    simp only [List.mem_cons] at hx ⊢
    rcases hx with h | h | h
    · exact .inr (.inl h)
    · exact .inl h
    · exact .inr (.inr h)
  refine ⟨h.os, h.tape, h.output, h.size, h.old, fun x hx => h.has x (hall x hx), fun x hx => h.may x (hall x hx), ?_⟩
  intro i j x y hx hy hxy
  match i, j, hx, hy with
  | 0, 0, _, _ => rfl
  | 0, 1, hx, hy => exact absurd (h.apart 1 0 x y hx hy hxy) (by decide)
  | 1, 0, hx, hy => exact absurd (h.apart 0 1 x y hx hy hxy) (by decide)
  | 1, 1, _, _ => rfl
  | 0, n + 2, hx, hy => exact absurd (h.apart 1 (n + 2) x y hx hy hxy) (by omega)
  | 1, n + 2, hx, hy => exact absurd (h.apart 0 (n + 2) x y hx hy hxy) (by omega)
  | n + 2, 0, hx, hy => exact absurd (h.apart (n + 2) 1 x y hx hy hxy) (by omega)
  | n + 2, 1, hx, hy => exact absurd (h.apart (n + 2) 0 x y hx hy hxy) (by omega)
  | n + 2, m + 2, hx, hy => exact h.apart (n + 2) (m + 2) x y hx hy hxy
end
end Go.Proofs.Ytijkmbebfodhdaa

/- (Mem11)
  The heap's laws, continued: a row that is loaded ahead of a store to it.
-/
namespace Go.Proofs.Ytijkmbebfodhdaa
open Go.RowKit
set_option linter.unusedSimpArgs false
set_option linter.unusedVariables false

theorem ow_load {P : Program} {Q : Exit → Act → World → Prop} {a : Act} {w0 w : World} {own : List Nat} {L : List (Nat × Obj)} {dst : Option Tmp} {ty : TypeId} {pos : String} {aft : Array Edge} {gd : Option (Nat × Bool)} {K : Act → World → Prop}
    {T U : TypeId} {x : Operand} {b i : Nat} {cs : Array Value} {fr : Nat × Nat} {d : TypeDesc} (hm : Mem w0 own L w) (hL : L[i]? = some (b, .cells cs U fr)) (hx : a.eval x = .pointer (some ⟨b, 0, none⟩))
    (hu : P.underlying T = some d) (hd : (match d with | .struct _ | .array _ _ => true | _ => false) = true) (hi : (P.info? T).map (·.size) = some cs.size)
    (h : K (a.put dst (.agg cs)) w) : Oper.wp P ⟨dst, .load T x, ty, pos, aft, gd⟩ a w K Q := by
  unfold Oper.wp
  rw [ld_row hL hx hu hd hi w hm]
  exact h
end Go.Proofs.Ytijkmbebfodhdaa

/- (Mem12)
  The heap's laws, continued: an operation that answers a value and writes nothing, wherever it stands.
-/
namespace Go.Proofs.Ytijkmbebfodhdaa
open Go.RowKit
set_option linter.unusedSimpArgs false
set_option linter.unusedVariables false

theorem ow_value {P : Program} {Q : Exit → Act → World → Prop} {a : Act} {w : World} {K : Act → World → Prop} {o : Oper} {v : Value}
    (h1 : (execOp a.eval o).run P w = .ok (.value v) w) (h : K (a.put o.dst v) w) : Oper.wp P o a w K Q := by
  unfold Oper.wp
  rw [h1]
  exact h
end Go.Proofs.Ytijkmbebfodhdaa

/- (WirL)
  How many bits a number has: the library's Len64; how many bytes.
-/
namespace Go.Proofs.Ytijkmbebfodhdaa
open Go.RowKit
set_option linter.unusedSimpArgs false
set_option linter.unusedVariables false
set_option maxHeartbeats 1000000
set_option maxRecDepth 200000
attribute [local irreducible] wpQuiet wpList wpAnyH Calls

/-- How many bits. -/
def bl (v : Nat) : Nat := if v = 0 then 0 else v.log2 + 1
/-- How many bytes. -/
def nB (v : Nat) : Nat := if v = 0 then 0 else v.log2 / 8 + 1
theorem nB_bl (v : Nat) : (bl v + 7) / 8 = nB v := by unfold bl nB; split <;> omega
theorem bl_shift (v s : Nat) (h : 2 ^ s ≤ v) : bl v = s + bl (v / 2 ^ s) := by
  have hp : 0 < 2 ^ s := Nat.pow_pos (by omega)
  have hy : v / 2 ^ s ≠ 0 := by have := Nat.div_le_div_right (c := 2 ^ s) h; rw [Nat.div_self hp] at this; omega
  have hv : v ≠ 0 := by omega
  unfold bl
  rw [if_neg hv, if_neg hy]
  obtain ⟨k, hk⟩ : ∃ k, (v / 2 ^ s).log2 = k := ⟨_, rfl⟩
  have h1 := (Nat.log2_eq_iff hy).1 hk
  rw [hk]
  have : v.log2 = s + k := by
    refine (Nat.log2_eq_iff hv).2 ⟨?_, ?_⟩
    · rw [Nat.pow_add]
      exact Nat.le_trans (Nat.mul_le_mul_left _ h1.1) (Nat.mul_div_le _ _)
    · rw [Nat.add_assoc, Nat.pow_add]
      have := Nat.lt_mul_of_div_lt h1.2 hp
      rwa [Nat.mul_comm] at this
  omega
theorem nB_lt (v : Nat) : v < 256 ^ nB v := by
  unfold nB
  split
  · next h => rw [h]; decide
  · next h =>
    rw [show (256 : Nat) = 2 ^ 8 from rfl, ← Nat.pow_mul]
    exact Nat.lt_of_lt_of_le (Nat.lt_log2_self) (Nat.pow_le_pow_right (by omega) (by omega))
theorem nB_le (v : Nat) (h : 0 < v) : 256 ^ (nB v - 1) ≤ v := by
  unfold nB
  rw [if_neg (by omega), Nat.add_sub_cancel, show (256 : Nat) = 2 ^ 8 from rfl, ← Nat.pow_mul]
  exact Nat.le_trans (Nat.pow_le_pow_right (by omega) (by omega)) (Nat.log2_self_le (by omega))
theorem nB_pos (v : Nat) (h : 0 < v) : 0 < nB v := by unfold nB; rw [if_neg (by omega)]; omega
theorem nB_8 (v : Nat) (h : v < 2 ^ 64) : nB v ≤ 8 := by
  unfold nB
  split
  · omega
  · next h0 => have := (Nat.log2_lt h0).2 h; omega
theorem nB_unique (v k : Nat) (hk : 0 < k) (h1 : 256 ^ (k - 1) ≤ v) (h2 : v < 256 ^ k) : nB v = k := by
  have h0 : 0 < v := Nat.lt_of_lt_of_le (Nat.pow_pos (by omega)) h1
  have h3 := nB_lt v
  have h4 := nB_le v h0
  have h5 := nB_pos v h0
  have a1 : k - 1 < nB v := (Nat.pow_lt_pow_iff_right (show 1 < 256 by omega)).1 (Nat.lt_of_le_of_lt h1 h3)
  have a2 : nB v - 1 < k := (Nat.pow_lt_pow_iff_right (show 1 < 256 by omega)).1 (Nat.lt_of_le_of_lt h4 h2)
  omega
theorem bitLen_bl (v : Nat) (hv : v < 2 ^ 64) : Lib.bitLen v = bl v := by
  unfold Lib.bitLen bl
  by_cases h : v = 0
  · rw [h, Lib.bitLenAux_zero, if_pos rfl]
  · obtain ⟨h1, h2, h3⟩ := Lib.bitLenAux_bounds 64 v hv h
    rw [if_neg h, (Nat.log2_eq_iff h).2 ⟨h2, by rw [Nat.sub_add_cancel h1]; exact h3⟩]
    omega
theorem len64_c (v : Nat) (hv : v < 2 ^ 64) (w : World) : Calls Try.prog 83 #[.int .u64 (v : Int)] w fun e w' => e = .returned (.int .i64 ((bl v : Nat) : Int)) ∧ Ext w w' := by
  refine (Try.bits_Len64 (v : Int) w (by omega) (by omega)).mono ?_
  rintro e w' ⟨rfl, rfl⟩
  exact ⟨by rw [Int.toNat_natCast, bitLen_bl v hv], Ext.refl _⟩
end Go.Proofs.Ytijkmbebfodhdaa

/- (ShaI)
  Places (as in chapter 1's texts): their values and their text.
-/
namespace Go.Proofs.Ytijkmbebfodhdaa
open Go.RowKit
set_option linter.unusedSimpArgs false
set_option linter.unusedVariables false
set_option maxHeartbeats 400000
set_option maxRecDepth 20000
attribute [local irreducible] wpQuiet wpList wpAnyH Calls

/-- Digit i (the highest is 0) of a number to the base 256, of twenty digits. -/
def dig (a i : Nat) : Nat := a / 256 ^ (19 - i) % 256
def idC (a : Nat) : Array Value := rowOf 20 fun i => .int .u8 ((dig a i : Nat) : Int)
@[irreducible] def idV (a : Nat) : Value := .agg (idC a)
theorem idV_eq (a : Nat) : idV a = .agg (idC a) := by unfold idV; rfl
theorem idC_size (a : Nat) : (idC a).size = 20 := rowOf_size _ _
theorem idC_one (a : Nat) : (idC a).all (·.oneCell') = true := rowOf_one _ _ fun _ _ => rfl
theorem idV_cells (a : Nat) : (idV a).cells = idC a := by rw [idV_eq]; rfl

theorem zeroID : (Try.prog.info? 24).bind (·.zero) = some (.agg (rowOf 20 fun _ => Value.int .u8 0)) := by
  unfold rowOf; kernel_rfl
theorem sizeID : (Try.prog.info? 24).map (·.size) = some 20 := by kernel_rfl
theorem sizeByteI : (Try.prog.info? 5).map (·.size) = some 1 := by kernel_rfl
theorem undID : Try.prog.underlying 24 = some (.array 20 5) := by kernel_rfl
theorem undByteI : Try.prog.underlying 5 = some (.int .u8) := by kernel_rfl

theorem dig_lt (a i : Nat) : dig a i < 256 := Nat.mod_lt _ (by omega)
/-- A digit's letter. -/
@[irreducible] def hexc (n : Nat) : Nat := if n < 10 then 48 + n else 87 + n
/-- Letter j of a place's text. -/
@[irreducible] def letter (a j : Nat) : Nat := hexc (if j % 2 = 0 then dig a (j / 2) / 16 else dig a (j / 2) % 16)
def textB (a : Nat) : ByteArray := bytesB 40 (letter a)

theorem elByteI : El Try.prog 71 5 1 1 (.int .u8 0) := El.mk (by kernel_rfl) (by kernel_rfl)
theorem undStrI : Try.prog.underlying 9 = some .string := by kernel_rfl
theorem undBytesI : Try.prog.underlying 71 = some (.slice 5) := by kernel_rfl

theorem hex_at : ∀ q : Fin 16, (({ data := #[48, 49, 50, 51, 52, 53, 54, 55, 56, 57, 97, 98, 99, 100, 101, 102] } : ByteArray)[q.1]?).map (fun b => b.toNat) = some (hexc q.1) := by
  unfold hexc; decide +kernel

@[go_sem high] theorem run_indexHex (q : Int) (h0 : 0 ≤ q) (h1 : q < 16) (w : World) : (Instr.index 9 (.string { data := #[48, 49, 50, 51, 52, 53, 54, 55, 56, 57, 97, 98, 99, 100, 101, 102] }) (.int .u8 q)).run Try.prog w = .ok (.int .u8 ((hexc q.toNat : Nat) : Int)) w := by
  have h := hex_at ⟨q.toNat, by omega⟩
  obtain ⟨b, hb, hv⟩ := Option.map_eq_some_iff.1 h
  simp only at hb hv
  simp [Instr.index, asIntOf, run_underlying undStrI, h0, hb, hv]

@[go_sem high] theorem run_indexID (a : Nat) (q : Int) (h0 : 0 ≤ q) (h1 : q < 20) (w : World) : (Instr.index 24 (idV a) (.int .i64 q)).run Try.prog w = .ok (.int .u8 ((dig a q.toNat : Nat) : Int)) w := by
  have hs := sizeByteI
  cases hi : Try.prog.info? 5 with
  | none => simp [hi] at hs
  | some it =>
    have hz : it.size = 1 := by simpa [hi] using hs
    have hp : (part 5 (idC a) q.toNat).run Try.prog w = .ok (.int .u8 ((dig a q.toNat : Nat) : Int)) w :=
      run_part_plain (P := Try.prog) w (by kernel_rfl) (rowOf_get _ _ _ (by omega))
    rw [idV_eq]
    simp [Instr.index, asIntOf, run_underlying undID, h0, h1, sizeOf, typeInfo, hi, hz, hp]

end Go.Proofs.Ytijkmbebfodhdaa

/- (WirA)
  Wire: a number's bytes.
-/
namespace Go.Proofs.Ytijkmbebfodhdaa
open Go.RowKit
set_option linter.unusedSimpArgs false
set_option linter.unusedVariables false
set_option maxHeartbeats 1000000
set_option maxRecDepth 20000
attribute [local irreducible] wpQuiet wpList wpAnyH Calls

/-- A row that begins with n of F's bytes. -/
def RowB (F : Nat → Nat) (n cap : Nat) (cur : Array Value) : Prop := n ≤ cap ∧ cap < 2 ^ 63 ∧ cur.size = cap ∧ ∀ j, j < n → cur[j]? = some (.int .u8 ((F j : Nat) : Int))
theorem rowB_push {F : Nat → Nat} {n cap cap' : Nat} {cur cur' : Array Value} (h : RowB F n cap cur) (p1 : n + 1 ≤ cap') (p2 : cap < 2 ^ 63 → cap' < 2 ^ 63) (p3 : cur'.size = cap' * 1) (p4 : ∀ j, j < n * 1 → cur'[j]? = cur[j]?) (p5 : cur'[n * 1 + 0]? = some (.int .u8 ((F n : Nat) : Int))) : RowB F (n + 1) cap' cur' := by
  refine ⟨p1, p2 h.2.1, by omega, fun j hj => ?_⟩
  by_cases hjn : j < n
  · rw [p4 j (by omega)]; exact h.2.2.2 j hjn
  · obtain rfl : j = n := by omega
    simpa using p5
theorem wrap_byte (x : Nat) : IntKind.u8.wrap (x : Int) = ((x % 256 : Nat) : Int) := by
  simp only [IntKind.wrap, IntKind.signed, IntKind.bits]
  simp
  try omega
/-- The bytes that a number is put as: how many, and each. -/
def numF (v j : Nat) : Nat := if j = 0 then nB v else v / 256 ^ (nB v - j) % 256
theorem numF_lt (v j : Nat) (hv : v < 2 ^ 64) : numF v j < 256 := by
  unfold numF
  split
  · have := nB_8 v hv; omega
  · omega
/-- A slice of just those bytes. -/
def BytesIn (F : Nat → Nat) (n : Nat) (w : World) (e : Ending) (w' : World) : Prop := ∃ g cap cur, e = .returned (.slice (some ⟨g, 0, none⟩) n n) ∧ RowB F n cap cur ∧ Mem w [] [(g, .cells cur 5 (0, 0))] w'
theorem wireNumber_c (v : Nat) (hv : v < 2 ^ 64) (w : World) : Calls Try.prog 47 #[.int .u64 (v : Int)] w (BytesIn (numF v) (nB v + 1) w) := by
  have hl := len64_c v hv
  have hLn := nB_bl v
  have hn8 := nB_8 v hv
  have hb64 : bl v ≤ 64 := by
    unfold bl
    split
    · omega
    · next h0 => have := (Nat.log2_lt h0).2 hv; omega
  have HF := hid (show ∀ t i, i + 1 + t = nB v → numF v (t + 1) = v / 2 ^ (8 * i) % 256 from fun t i h => by
    unfold numF
    rw [if_neg (by omega), show (256 : Nat) = 2 ^ 8 from rfl, ← Nat.pow_mul, show nB v - (t + 1) = i from by omega])
  have HF0 := hid (show numF v 0 = nB v from by unfold numF; rfl)
  obtain ⟨F, hF⟩ : ∃ F, numF v = F := ⟨_, rfl⟩
  rw [hF] at HF HF0 ⊢
  clear hF
  obtain ⟨n, hn⟩ : ∃ n, nB v = n := ⟨_, rfl⟩
  rw [hn] at hLn hn8 HF HF0 ⊢
  obtain ⟨L, hL⟩ : ∃ L, bl v = L := ⟨_, rfl⟩
  rw [hL] at hl hLn hb64
  obtain ⟨L8, hL8⟩ : ∃ x, L + 8 = x := ⟨_, rfl⟩
  obtain ⟨L7, hL7⟩ : ∃ x, L + 7 = x := ⟨_, rfl⟩
  obtain ⟨m, hm1⟩ : ∃ m, n + 1 = m := ⟨_, rfl⟩
  have f1 : IntKind.i64.wrap ((L : Int) + 8) = (L8 : Int) := by rw [wrap_i64 (by omega) (by omega)]; omega
  have f2 : IntKind.i64.wrap ((L8 : Int) - 1) = (L7 : Int) := by rw [wrap_i64 (by omega) (by omega)]; omega
  have f3 : (L7 : Int) / 8 = (n : Int) := by omega
  have f3' : (L7 : Int).tdiv 8 = (n : Int) := by rw [Int.tdiv_eq_ediv_of_nonneg (by omega)]; exact f3
  have f4 : IntKind.i64.wrap (n : Int) = (n : Int) := wrap_i64 (by omega) (by omega)
  have f5 : IntKind.u8.wrap (n : Int) = (n : Int) := wrap_u8 (by omega) (by omega)
  have f6 : IntKind.i64.wrap ((n : Int) - 1) = (n : Int) - 1 := wrap_i64 (by omega) (by omega)
  have f7 : IntKind.i64.wrap (1 + (n : Int)) = (m : Int) := by rw [wrap_i64 (by omega) (by omega)]; omega
  have HN := hid hn8
  have HV := hid hv
  have HM := hid hm1
  clear hn hL hLn hb64 hL8 hL7 hn8 hm1 hv
  go_enter Try.func47, Try.ntmps47
  have hm := Mem.refl w []
  go_wp2_with ((first | refine wpList_skip (by rfl) ?_ | (refine wlL (hm := hm) (hu := by first | exact undID) (hi := by (try simp only [rowOf_size]); first | exact sizeID) (h := ?_); (try simp only [Act.put, k1, k2, k3]); (try simp only [← idV_eq])) | (refine wlS (hm := hm) (hv := (by first | rfl | exact idV_eq _ | exact labV_eq _ _ | exact rectV_eq _ _ _ _)) (hi := by (try simp only [rowOf_size]); first | exact sizeID) (hs := by first | (simp only [rowOf_size]; done) | rfl) (h := ?_); clear hm; intro w1 hm; (try simp only [rowOf_set, k1, k2, k3, Value.cells, Act.eval, k7, k8, k9, kA, Option.getD_some] at hm)) | (refine wlA (hz := by first | exact zeroID) (hm := hm) (h := ?_); clear hm; intro b1 w1 hm; (try simp only [rowOf_set, k1, k2, k3, Value.cells, Act.eval, k7, k8, k9, kA, Option.getD_some] at hm)) | (refine wl_box (by rfl) rfl (by first | exact idV_cells _ | exact labV_cells _ _ | exact rectV_cells _ _ _ _ | rfl) hm ?_; clear hm; intro b1 w1 hm) | (go_at_call 83; refine (hl _).mono ?_; rintro e w1 ⟨rfl, hx⟩; replace hm := hm.call hx; clear hx) | (with_reducible first | refine stBs ?_ | refine stMs ?_ | refine stAp ?_ | refine stCo ?_ | (show wpList _ _ _ (⟨_, .convert 71 9 _, _, _, _, _⟩ :: _) _ _; refine Stop.mk ?_))); (try simp only [k4, k5, k6, Act.put, k1, k2, k3]))
  refine Stop.go (wl_buildSlice (ps := [(0, .int .u8 (n : Int))]) (cells := #[.int .u8 (n : Int)]) (by rfl) hm elByteI (by decide) (by decide) (by simp [Act.eval]) (fill_one _ _ rfl) ?_)
  clear hm; intro g0 w5 hm; simp only [Act.put, k1, k2, k3]
  go_wp2_with ((first | refine wpList_skip (by rfl) ?_ | (refine wlL (hm := hm) (hu := by first | exact undID) (hi := by (try simp only [rowOf_size]); first | exact sizeID) (h := ?_); (try simp only [Act.put, k1, k2, k3]); (try simp only [← idV_eq])) | (refine wlS (hm := hm) (hv := (by first | rfl | exact idV_eq _ | exact labV_eq _ _ | exact rectV_eq _ _ _ _)) (hi := by (try simp only [rowOf_size]); first | exact sizeID) (hs := by first | (simp only [rowOf_size]; done) | rfl) (h := ?_); clear hm; intro w1 hm; (try simp only [rowOf_set, k1, k2, k3, Value.cells, Act.eval, k7, k8, k9, kA, Option.getD_some] at hm)) | (refine wlA (hz := by first | exact zeroID) (hm := hm) (h := ?_); clear hm; intro b1 w1 hm; (try simp only [rowOf_set, k1, k2, k3, Value.cells, Act.eval, k7, k8, k9, kA, Option.getD_some] at hm)) | (refine wl_box (by rfl) rfl (by first | exact idV_cells _ | exact labV_cells _ _ | exact rectV_cells _ _ _ _ | rfl) hm ?_; clear hm; intro b1 w1 hm) | (go_at_call 83; refine (hl _).mono ?_; rintro e w1 ⟨rfl, hx⟩; replace hm := hm.call hx; clear hx) | (with_reducible first | refine stBs ?_ | refine stMs ?_ | refine stAp ?_ | refine stCo ?_ | (show wpList _ _ _ (⟨_, .convert 71 9 _, _, _, _, _⟩ :: _) _ _; refine Stop.mk ?_))); (try simp only [k4, k5, k6, Act.put, k1, k2, k3]))
  have hr0 : RowB F 1 1 #[.int .u8 (n : Int)] := ⟨by omega, by omega, rfl, fun j hj => by rw [show j = 0 from by omega, HF0.out]; rfl⟩
  go_loopw [4, 5] (fun vs vi wr => ∃ (t g cap : Nat) (cur : Array Value), t ≤ n ∧ vi = .int .i64 ((n : Int) - 1 - (t : Int)) ∧ vs = .slice (some ⟨g, 0, none⟩) (t + 1) cap ∧ Hid (RowB F (t + 1) cap cur) ∧ Mem w [] [(g, .cells cur 5 (0, 0))] wr)
    (fun _ vi _ => (intOf vi + 1).toNat)
  case atStart => exact ⟨0, g0, 1, _, by omega, by simp, rfl, hid hr0, hm⟩
  case round =>
    clear hm hr0
    obtain ⟨t, g, cap, cur, ht, rfl, rfl, HR, hm⟩ := hrel
    by_cases htn : t < n
    · obtain ⟨i, hi⟩ : ∃ i : Nat, i + 1 + t = n := ⟨n - 1 - t, by omega⟩
      have hx : (n : Int) - 1 - (t : Int) = (i : Int) := by omega
      have hfb := HF.out t i hi
      have hn8 := HN.out
      obtain ⟨s, hs⟩ : ∃ s, 8 * i = s := ⟨_, rfl⟩
      rw [hs] at hfb
      obtain ⟨p, hp⟩ : ∃ p, v / 2 ^ s = p := ⟨_, rfl⟩
      rw [hp] at hfb
      obtain ⟨r, hr⟩ : ∃ r, p % 256 = r := ⟨_, rfl⟩
      rw [hr] at hfb
      have g1 : IntKind.i64.wrap (8 * (i : Int)) = (s : Int) := by rw [wrap_i64 (by omega) (by omega)]; omega
      have g2 : (v : Int) / 2 ^ s = (p : Int) := by rw [← hp]; push_cast; rfl
      have g3 : IntKind.u8.wrap (p : Int) = (r : Int) := by rw [wrap_byte, hr]
      have g4 : IntKind.i64.wrap ((i : Int) - 1) = (i : Int) - 1 := wrap_i64 (by omega) (by omega)
      have z0 : (0 : Int) ≤ (s : Int) := by omega
      have z1 : (s : Int) ≤ 64 := by omega
      have z2 : (0 : Int) ≤ (i : Int) := by omega
      have HB := hid hfb
      have HI := hid hi
      rw [hx]
      clear hfb hs hp hr hx hi hn8 ht htn
      go_wp2_with ((first | refine wpList_skip (by rfl) ?_ | (refine wlL (hm := hm) (hu := by first | exact undID) (hi := by (try simp only [rowOf_size]); first | exact sizeID) (h := ?_); (try simp only [Act.put, k1, k2, k3]); (try simp only [← idV_eq])) | (refine wlS (hm := hm) (hv := (by first | rfl | exact idV_eq _ | exact labV_eq _ _ | exact rectV_eq _ _ _ _)) (hi := by (try simp only [rowOf_size]); first | exact sizeID) (hs := by first | (simp only [rowOf_size]; done) | rfl) (h := ?_); clear hm; intro w1 hm; (try simp only [rowOf_set, k1, k2, k3, Value.cells, Act.eval, k7, k8, k9, kA, Option.getD_some] at hm)) | (refine wlA (hz := by first | exact zeroID) (hm := hm) (h := ?_); clear hm; intro b1 w1 hm; (try simp only [rowOf_set, k1, k2, k3, Value.cells, Act.eval, k7, k8, k9, kA, Option.getD_some] at hm)) | (refine wl_box (by rfl) rfl (by first | exact idV_cells _ | exact labV_cells _ _ | exact rectV_cells _ _ _ _ | rfl) hm ?_; clear hm; intro b1 w1 hm) | (go_at_call 83; refine (hl _).mono ?_; rintro e w1 ⟨rfl, hx⟩; replace hm := hm.call hx; clear hx) | (with_reducible first | refine stBs ?_ | refine stMs ?_ | refine stAp ?_ | refine stCo ?_ | (show wpList _ _ _ (⟨_, .convert 71 9 _, _, _, _, _⟩ :: _) _ _; refine Stop.mk ?_))); (try simp only [k4, k5, k6, Act.put, k1, k2, k3]))
      refine Stop.go (wl_buildSlice (ps := [(0, .int .u8 (r : Int))]) (cells := #[.int .u8 (r : Int)]) (by rfl) hm elByteI (by decide) (by decide) (by simp [Act.eval]) (fill_one _ _ rfl) ?_)
      clear hm; intro gn w6 hm; simp only [Act.put, k1, k2, k3]
      go_wp2_with ((first | refine wpList_skip (by rfl) ?_ | (refine wlL (hm := hm) (hu := by first | exact undID) (hi := by (try simp only [rowOf_size]); first | exact sizeID) (h := ?_); (try simp only [Act.put, k1, k2, k3]); (try simp only [← idV_eq])) | (refine wlS (hm := hm) (hv := (by first | rfl | exact idV_eq _ | exact labV_eq _ _ | exact rectV_eq _ _ _ _)) (hi := by (try simp only [rowOf_size]); first | exact sizeID) (hs := by first | (simp only [rowOf_size]; done) | rfl) (h := ?_); clear hm; intro w1 hm; (try simp only [rowOf_set, k1, k2, k3, Value.cells, Act.eval, k7, k8, k9, kA, Option.getD_some] at hm)) | (refine wlA (hz := by first | exact zeroID) (hm := hm) (h := ?_); clear hm; intro b1 w1 hm; (try simp only [rowOf_set, k1, k2, k3, Value.cells, Act.eval, k7, k8, k9, kA, Option.getD_some] at hm)) | (refine wl_box (by rfl) rfl (by first | exact idV_cells _ | exact labV_cells _ _ | exact rectV_cells _ _ _ _ | rfl) hm ?_; clear hm; intro b1 w1 hm) | (go_at_call 83; refine (hl _).mono ?_; rintro e w1 ⟨rfl, hx⟩; replace hm := hm.call hx; clear hx) | (with_reducible first | refine stBs ?_ | refine stMs ?_ | refine stAp ?_ | refine stCo ?_ | (show wpList _ _ _ (⟨_, .convert 71 9 _, _, _, _, _⟩ :: _) _ _; refine Stop.mk ?_))); (try simp only [k4, k5, k6, Act.put, k1, k2, k3]))
      have hnw := news_of (i := 0) hm rfl
      have hn8 := HN.out
      have hi := HI.out
      refine Stop.go (wl_op (by rfl) fun K hK => ow_append (i := 1) (n := t + 1) (m := 1) (c := 1) (news := [.int .u8 (r : Int)]) (ad := ⟨gn, 0, none⟩) (sz := 1) (cur := cur) (g := g) hm elByteI ?h1 ?h2 ?h3 ?h4 HR.out.1 ?h5 ?h6 hnw ?h7 ?h8 ?h9 ?h10)
      case h1 => rfl
      case h2 => rfl
      case h3 => rfl
      case h4 => rfl
      case h5 => have := HR.out.2.2.1; omega
      case h6 => rfl
      case h7 => simp [Value.oneCell']
      case h8 => omega
      case h9 => omega
      clear hn8 hi
      intro g' cap' cur' w7 hm' p1 p2 p3 p4 p5 p6; clear hm; have hm := hm'; clear hm'; refine hK _ _ ?_; clear hK K; simp only [Act.put, k1, k2, k3]
      have HP := hid (rowB_push HR.out p1 p2 p3 p4 (by rw [p5 0 (by omega), HB.out]; rfl))
      clear p1 p2 p3 p4 p5 p6
      go_wp2_with ((first | refine wpList_skip (by rfl) ?_ | (refine wlL (hm := hm) (hu := by first | exact undID) (hi := by (try simp only [rowOf_size]); first | exact sizeID) (h := ?_); (try simp only [Act.put, k1, k2, k3]); (try simp only [← idV_eq])) | (refine wlS (hm := hm) (hv := (by first | rfl | exact idV_eq _ | exact labV_eq _ _ | exact rectV_eq _ _ _ _)) (hi := by (try simp only [rowOf_size]); first | exact sizeID) (hs := by first | (simp only [rowOf_size]; done) | rfl) (h := ?_); clear hm; intro w1 hm; (try simp only [rowOf_set, k1, k2, k3, Value.cells, Act.eval, k7, k8, k9, kA, Option.getD_some] at hm)) | (refine wlA (hz := by first | exact zeroID) (hm := hm) (h := ?_); clear hm; intro b1 w1 hm; (try simp only [rowOf_set, k1, k2, k3, Value.cells, Act.eval, k7, k8, k9, kA, Option.getD_some] at hm)) | (refine wl_box (by rfl) rfl (by first | exact idV_cells _ | exact labV_cells _ _ | exact rectV_cells _ _ _ _ | rfl) hm ?_; clear hm; intro b1 w1 hm) | (go_at_call 83; refine (hl _).mono ?_; rintro e w1 ⟨rfl, hx⟩; replace hm := hm.call hx; clear hx) | (with_reducible first | refine stBs ?_ | refine stMs ?_ | refine stAp ?_ | refine stCo ?_ | (show wpList _ _ _ (⟨_, .convert 71 9 _, _, _, _, _⟩ :: _) _ _; refine Stop.mk ?_))); (try simp only [k4, k5, k6, Act.put, k1, k2, k3]))
      go_roundw
      case rel => exact ⟨t + 1, g', cap', cur', by have := HI.out; omega, by have := HI.out; congr 1; omega, rfl, HP, hm.tail⟩
      case measure => (have := HI.out; simp [intOf]; try omega)
    · obtain rfl : t = n := by omega
      have hx : (t : Int) - 1 - (t : Int) = -1 := by omega
      have c1 : m ≤ cap := by have := HR.out.1; have := HM.out; omega
      have c2 : (m : Int) ≤ (cap : Int) := by omega
      have c3 : (0 : Int) ≤ (m : Int) := by omega
      rw [hx]
      clear hx ht htn
      go_wp2_with ((first | refine wpList_skip (by rfl) ?_ | (refine wlL (hm := hm) (hu := by first | exact undID) (hi := by (try simp only [rowOf_size]); first | exact sizeID) (h := ?_); (try simp only [Act.put, k1, k2, k3]); (try simp only [← idV_eq])) | (refine wlS (hm := hm) (hv := (by first | rfl | exact idV_eq _ | exact labV_eq _ _ | exact rectV_eq _ _ _ _)) (hi := by (try simp only [rowOf_size]); first | exact sizeID) (hs := by first | (simp only [rowOf_size]; done) | rfl) (h := ?_); clear hm; intro w1 hm; (try simp only [rowOf_set, k1, k2, k3, Value.cells, Act.eval, k7, k8, k9, kA, Option.getD_some] at hm)) | (refine wlA (hz := by first | exact zeroID) (hm := hm) (h := ?_); clear hm; intro b1 w1 hm; (try simp only [rowOf_set, k1, k2, k3, Value.cells, Act.eval, k7, k8, k9, kA, Option.getD_some] at hm)) | (refine wl_box (by rfl) rfl (by first | exact idV_cells _ | exact labV_cells _ _ | exact rectV_cells _ _ _ _ | rfl) hm ?_; clear hm; intro b1 w1 hm) | (go_at_call 83; refine (hl _).mono ?_; rintro e w1 ⟨rfl, hx⟩; replace hm := hm.call hx; clear hx) | (with_reducible first | refine stBs ?_ | refine stMs ?_ | refine stAp ?_ | refine stCo ?_ | (show wpList _ _ _ (⟨_, .convert 71 9 _, _, _, _, _⟩ :: _) _ _; refine Stop.mk ?_))); (try simp only [k4, k5, k6, Act.put, k1, k2, k3]))
      go_ret
      have := HM.out
      subst this
      exact ⟨g, cap, cur, rfl, HR.out, hm⟩
end Go.Proofs.Ytijkmbebfodhdaa

/- (WirB)
  Wire: what is put behind bytes; the document's bytes.
-/
namespace Go.Proofs.Ytijkmbebfodhdaa
open Go.RowKit
set_option linter.unusedSimpArgs false
set_option linter.unusedVariables false
set_option maxHeartbeats 1000000
set_option maxRecDepth 20000
attribute [local irreducible] wpQuiet wpList wpAnyH Calls

theorem one_c (v : Nat) (hv : v < 2 ^ 64) : Says 46 #[.int .u64 (v : Int)] (.string (bytesB 1 fun _ => v % 256)) := by
  intro w
  obtain ⟨r, hr⟩ : ∃ r, v % 256 = r := ⟨_, rfl⟩
  have f1 : (v : Int) % 256 = (r : Int) := by omega
  have f2 : (v : Int).tmod 256 = (r : Int) := by rw [Int.tmod_eq_emod_of_nonneg (by omega)]; exact f1
  have f3 : IntKind.u64.wrap (r : Int) = (r : Int) := wrap_u64 (by omega) (by omega)
  have f4 : IntKind.u8.wrap (r : Int) = (r : Int) := wrap_u8 (by omega) (by omega)
  rw [hr]
  clear hr hv
  go_enter Try.func46, Try.ntmps46
  have hm := Mem.refl w []
  go_wp2_with ((first | refine wpList_skip (by rfl) ?_ | (refine wlL (hm := hm) (hu := by first | exact undID | exact undLabel) (hi := by (try simp only [rowOf_size, idC_size]); first | exact sizeID | exact sizeLabel) (h := ?_); (try simp only [Act.put, k1, k2, k3]); (try simp only [← labV_eq, ← idV_eq])) | refine wlLC (hm := hm) (hv := by first | exact C1.out | rfl) (hu := by first | exact undByteI | exact undInt | exact undU64) (h := ?_) | (refine wlS (hm := hm) (hv := (by first | rfl | exact idV_eq _ | exact labV_eq _ _ | exact rectV_eq _ _ _ _)) (hi := by (try simp only [rowOf_size, idC_size]); first | exact sizeID | exact sizeLabel) (hs := by first | (simp only [rowOf_size, idC_size]; done) | rfl) (h1 := by first | rfl | exact idC_one _ | exact rowOf_one _ _ (fun _ _ => rfl) | (simp only [List.size_toArray, List.length_cons, List.all_toArray', List.all_cons, List.all_nil, Value.oneCell', Bool.and_true, Bool.and_self]; done) | (simp [Value.oneCell']; done)) (h := ?_); clear hm; intro w1 hm; (try simp only [rowOf_set, k1, k2, k3, Value.cells, Act.eval, k7, k8, k9, kA, Option.getD_some] at hm)) | (refine wlSC (hm := hm) (hi := by first | exact sizeByteI | exact sizeInt | exact sizeU64) (ho := by first | decide | (simp only [rowOf_size, idC_size]; omega) | (simp; done)) (h := ?_); clear hm; intro w1 hm; (try simp only [rowOf_set, k1, k2, k3, Value.cells, Act.eval, k7, k8, k9, kA, Option.getD_some] at hm)) | (refine wlA (hz := by first | exact zeroID | exact zeroLabel) (hm := hm) (h := ?_); clear hm; intro b1 w1 hm; (try simp only [rowOf_set, k1, k2, k3, Value.cells, Act.eval, k7, k8, k9, kA, Option.getD_some] at hm)) | (refine wl_box (by rfl) rfl (by first | exact idV_cells _ | exact labV_cells _ _ | exact rectV_cells _ _ _ _ | rfl) hm ?_; clear hm; intro b1 w1 hm) | (with_reducible first | refine stBs ?_ | refine stMs ?_ | refine stAp ?_ | refine stCo ?_ | (show wpList _ _ _ (⟨_, .convert 71 9 _, _, _, _, _⟩ :: _) _ _; refine Stop.mk ?_))); (try simp only [k4, k5, k6, Act.put, k1, k2, k3]))
  refine Stop.go (wl_buildSlice (ps := [(0, .int .u8 (r : Int))]) (cells := #[.int .u8 (r : Int)]) (by rfl) hm elByteI (by decide) (by decide) (by simp [Act.eval]) (fill_one _ _ rfl) ?_)
  clear hm; intro gn w6 hm; simp only [Act.put, k1, k2, k3]
  go_wp2_with ((first | refine wpList_skip (by rfl) ?_ | (refine wlL (hm := hm) (hu := by first | exact undID | exact undLabel) (hi := by (try simp only [rowOf_size, idC_size]); first | exact sizeID | exact sizeLabel) (h := ?_); (try simp only [Act.put, k1, k2, k3]); (try simp only [← labV_eq, ← idV_eq])) | refine wlLC (hm := hm) (hv := by first | exact C1.out | rfl) (hu := by first | exact undByteI | exact undInt | exact undU64) (h := ?_) | (refine wlS (hm := hm) (hv := (by first | rfl | exact idV_eq _ | exact labV_eq _ _ | exact rectV_eq _ _ _ _)) (hi := by (try simp only [rowOf_size, idC_size]); first | exact sizeID | exact sizeLabel) (hs := by first | (simp only [rowOf_size, idC_size]; done) | rfl) (h1 := by first | rfl | exact idC_one _ | exact rowOf_one _ _ (fun _ _ => rfl) | (simp only [List.size_toArray, List.length_cons, List.all_toArray', List.all_cons, List.all_nil, Value.oneCell', Bool.and_true, Bool.and_self]; done) | (simp [Value.oneCell']; done)) (h := ?_); clear hm; intro w1 hm; (try simp only [rowOf_set, k1, k2, k3, Value.cells, Act.eval, k7, k8, k9, kA, Option.getD_some] at hm)) | (refine wlSC (hm := hm) (hi := by first | exact sizeByteI | exact sizeInt | exact sizeU64) (ho := by first | decide | (simp only [rowOf_size, idC_size]; omega) | (simp; done)) (h := ?_); clear hm; intro w1 hm; (try simp only [rowOf_set, k1, k2, k3, Value.cells, Act.eval, k7, k8, k9, kA, Option.getD_some] at hm)) | (refine wlA (hz := by first | exact zeroID | exact zeroLabel) (hm := hm) (h := ?_); clear hm; intro b1 w1 hm; (try simp only [rowOf_set, k1, k2, k3, Value.cells, Act.eval, k7, k8, k9, kA, Option.getD_some] at hm)) | (refine wl_box (by rfl) rfl (by first | exact idV_cells _ | exact labV_cells _ _ | exact rectV_cells _ _ _ _ | rfl) hm ?_; clear hm; intro b1 w1 hm) | (with_reducible first | refine stBs ?_ | refine stMs ?_ | refine stAp ?_ | refine stCo ?_ | (show wpList _ _ _ (⟨_, .convert 71 9 _, _, _, _, _⟩ :: _) _ _; refine Stop.mk ?_))); (try simp only [k4, k5, k6, Act.put, k1, k2, k3]))
  have hrs := run_toString (P := Try.prog) undBytesI undByteI undStrI hm (i := 0) (off := 0) (n := 1) (cap := 1) rfl (fun _ => r) (fun j hj => by have h0 : j = 0 := Nat.lt_one_iff.1 hj; subst h0; rfl)
  refine Stop.go ?_
  go_wp2
  go_ret
  exact ⟨rfl, hm.ext⟩
/-- The bytes of a number, from the highest. -/
def digF (v k j : Nat) : Nat := v / 256 ^ (k - 1 - j) % 256
theorem dig_push (v k : Nat) : bytesB 1 (fun _ => v / 256 ^ k % 256) ++ bytesB k (digF v k) = bytesB (k + 1) (digF v (k + 1)) := by
  rw [bytesB_append, Nat.add_comm 1 k]
  refine bytesB_congr fun j hj => ?_
  unfold digF
  split
  · next h => rw [show k + 1 - 1 - j = k from by omega]
  · next h => rw [show k - 1 - (j - 1) = k + 1 - 1 - j from by omega]
theorem num_whole (v : Nat) (hv : v < 2 ^ 64) : bytesB 1 (fun _ => nB v % 256) ++ bytesB (nB v) (digF v (nB v)) = bytesB (nB v + 1) (numF v) := by
  have := nB_8 v hv
  rw [bytesB_append, Nat.add_comm 1 (nB v)]
  refine bytesB_congr fun j hj => ?_
  unfold digF numF
  by_cases h : j = 0
  · rw [if_pos (by omega), if_pos h]; omega
  · rw [if_neg (by omega), if_neg h, show nB v - 1 - (j - 1) = nB v - j from by omega]
theorem refNumber_c (v : Nat) (hv : v < 2 ^ 64) : Says 20 #[.int .u64 (v : Int)] (.string (bytesB (nB v + 1) (numF v))) := by
  intro w
  rw [← num_whole v hv]
  have hn8 := nB_8 v hv
  have HE := hid (show ∀ k, k ≤ nB v → v / 256 ^ k = 0 → k = nB v from fun k hk h => by
    by_cases h0 : 0 < v
    · have h1 := nB_le v h0
      have h2 : v < 256 ^ k := by
        have := Nat.div_eq_zero_iff.1 h
        have hp : 0 < 256 ^ k := Nat.pow_pos (by omega)
        omega
      have h3 := (Nat.pow_lt_pow_iff_right (show 1 < 256 by omega)).1 (Nat.lt_of_le_of_lt h1 h2)
      omega
    · have : nB v = 0 := by unfold nB; rw [if_pos (by omega)]
      omega)
  have HL := hid (show ∀ k, k ≤ nB v → 0 < v / 256 ^ k → k < nB v from fun k hk h => by
    have h1 := nB_lt v
    rcases Nat.lt_or_ge k (nB v) with h2 | h2
    · exact h2
    · obtain rfl : k = nB v := by omega
      rw [Nat.div_eq_of_lt h1] at h
      omega)
  have HP := hid (dig_push v)
  have HV := hid hv
  have HN := hid hn8
  have HD := hid (show ∀ k, v / 256 ^ k < 2 ^ 64 from fun k => Nat.lt_of_le_of_lt (Nat.div_le_self _ _) hv)
  have HS := hid (show ∀ k, v / 256 ^ k / 256 = v / 256 ^ (k + 1) from fun k => by rw [Nat.div_div_eq_div_mul, ← Nat.pow_succ])
  have e0 : bytesB 0 (digF v 0) = { data := #[] } := by unfold bytesB; rfl
  obtain ⟨n, hn⟩ : ∃ n, nB v = n := ⟨_, rfl⟩
  rw [hn] at HE HL HN ⊢
  clear hn hn8 hv
  have H0 := hid e0
  clear e0
  have hv0 : v = v / 256 ^ 0 := by rw [Nat.pow_zero, Nat.div_one]
  have HZ := hid hv0
  clear hv0
  go_enter Try.func20, Try.ntmps20
  have hm := Mem.refl w []
  go_wp2_with ((first | refine wpList_skip (by rfl) ?_ | (refine wlL (hm := hm) (hu := by first | exact undID | exact undLabel) (hi := by (try simp only [rowOf_size, idC_size]); first | exact sizeID | exact sizeLabel) (h := ?_); (try simp only [Act.put, k1, k2, k3]); (try simp only [← labV_eq, ← idV_eq])) | refine wlLC (hm := hm) (hv := by first | exact C1.out | rfl) (hu := by first | exact undByteI | exact undInt | exact undU64) (h := ?_) | (refine wlS (hm := hm) (hv := (by first | rfl | exact idV_eq _ | exact labV_eq _ _ | exact rectV_eq _ _ _ _)) (hi := by (try simp only [rowOf_size, idC_size]); first | exact sizeID | exact sizeLabel) (hs := by first | (simp only [rowOf_size, idC_size]; done) | rfl) (h1 := by first | rfl | exact idC_one _ | exact rowOf_one _ _ (fun _ _ => rfl) | (simp only [List.size_toArray, List.length_cons, List.all_toArray', List.all_cons, List.all_nil, Value.oneCell', Bool.and_true, Bool.and_self]; done) | (simp [Value.oneCell']; done)) (h := ?_); clear hm; intro w1 hm; (try simp only [rowOf_set, k1, k2, k3, Value.cells, Act.eval, k7, k8, k9, kA, Option.getD_some] at hm)) | (refine wlSC (hm := hm) (hi := by first | exact sizeByteI | exact sizeInt | exact sizeU64) (ho := by first | decide | (simp only [rowOf_size, idC_size]; omega) | (simp; done)) (h := ?_); clear hm; intro w1 hm; (try simp only [rowOf_set, k1, k2, k3, Value.cells, Act.eval, k7, k8, k9, kA, Option.getD_some] at hm)) | (refine wlA (hz := by first | exact zeroID | exact zeroLabel) (hm := hm) (h := ?_); clear hm; intro b1 w1 hm; (try simp only [rowOf_set, k1, k2, k3, Value.cells, Act.eval, k7, k8, k9, kA, Option.getD_some] at hm)) | (refine wl_box (by rfl) rfl (by first | exact idV_cells _ | exact labV_cells _ _ | exact rectV_cells _ _ _ _ | rfl) hm ?_; clear hm; intro b1 w1 hm) | (go_at_call 46; refine (ho _).mono ?_; rintro e w1 ⟨rfl, hx⟩; replace hm := hm.call hx; clear hx) | (with_reducible first | refine stBs ?_ | refine stMs ?_ | refine stAp ?_ | refine stCo ?_ | (show wpList _ _ _ (⟨_, .convert 71 9 _, _, _, _, _⟩ :: _) _ _; refine Stop.mk ?_))); (try simp only [k4, k5, k6, Act.put, k1, k2, k3]))
  go_loopw [0, 3] (fun vv vo wr => ∃ k x : Nat, k ≤ n ∧ Hid (v / 256 ^ k = x) ∧ vv = .int .u64 (x : Int) ∧ vo = .string (bytesB k (digF v k)) ∧ Mem w [] [] wr)
    (fun vv _ _ => (intOf vv).toNat)
  case atStart => exact ⟨0, v, by omega, hid HZ.out.symm, rfl, by rw [H0.out], hm⟩
  case round =>
    clear hm
    obtain ⟨k, x, hk, HX, rfl, rfl, hm⟩ := hrel
    by_cases hx : 0 < x
    · have hkn := HL.out k hk (by rw [HX.out]; exact hx)
      have hxl := HD.out k
      rw [HX.out] at hxl
      have ho := one_c x hxl
      have hpush := HP.out k
      rw [HX.out] at hpush
      have hsz : ¬ 9223372036854775807 < (bytesB 1 fun _ => x % 256).size + (bytesB k (digF v k)).size := by rw [bytesB_size, bytesB_size]; have := HN.out; omega
      obtain ⟨y, hy⟩ : ∃ y, x / 256 = y := ⟨_, rfl⟩
      have f1 : (x : Int) / 256 = (y : Int) := by omega
      have f2 : (x : Int).tdiv 256 = (y : Int) := by rw [Int.tdiv_eq_ediv_of_nonneg (by omega)]; exact f1
      have f3 : IntKind.u64.wrap (y : Int) = (y : Int) := wrap_u64 (by omega) (by omega)
      have HY := hid (show v / 256 ^ (k + 1) = y from by rw [← HS.out, HX.out, hy])
      have HK := hid (show y < x from by omega)
      have HKN := hid hkn
      obtain ⟨A, hA⟩ : ∃ A, (bytesB 1 fun _ => x % 256) = A := ⟨_, rfl⟩
      obtain ⟨B, hB⟩ : ∃ B, bytesB k (digF v k) = B := ⟨_, rfl⟩
      rw [hA] at ho hpush hsz
      rw [hB] at hpush hsz ⊢
      have HU := hid hpush
      clear hA hB hy hpush hkn hxl hk
      go_wp2_with ((first | refine wpList_skip (by rfl) ?_ | (refine wlL (hm := hm) (hu := by first | exact undID | exact undLabel) (hi := by (try simp only [rowOf_size, idC_size]); first | exact sizeID | exact sizeLabel) (h := ?_); (try simp only [Act.put, k1, k2, k3]); (try simp only [← labV_eq, ← idV_eq])) | refine wlLC (hm := hm) (hv := by first | exact C1.out | rfl) (hu := by first | exact undByteI | exact undInt | exact undU64) (h := ?_) | (refine wlS (hm := hm) (hv := (by first | rfl | exact idV_eq _ | exact labV_eq _ _ | exact rectV_eq _ _ _ _)) (hi := by (try simp only [rowOf_size, idC_size]); first | exact sizeID | exact sizeLabel) (hs := by first | (simp only [rowOf_size, idC_size]; done) | rfl) (h1 := by first | rfl | exact idC_one _ | exact rowOf_one _ _ (fun _ _ => rfl) | (simp only [List.size_toArray, List.length_cons, List.all_toArray', List.all_cons, List.all_nil, Value.oneCell', Bool.and_true, Bool.and_self]; done) | (simp [Value.oneCell']; done)) (h := ?_); clear hm; intro w1 hm; (try simp only [rowOf_set, k1, k2, k3, Value.cells, Act.eval, k7, k8, k9, kA, Option.getD_some] at hm)) | (refine wlSC (hm := hm) (hi := by first | exact sizeByteI | exact sizeInt | exact sizeU64) (ho := by first | decide | (simp only [rowOf_size, idC_size]; omega) | (simp; done)) (h := ?_); clear hm; intro w1 hm; (try simp only [rowOf_set, k1, k2, k3, Value.cells, Act.eval, k7, k8, k9, kA, Option.getD_some] at hm)) | (refine wlA (hz := by first | exact zeroID | exact zeroLabel) (hm := hm) (h := ?_); clear hm; intro b1 w1 hm; (try simp only [rowOf_set, k1, k2, k3, Value.cells, Act.eval, k7, k8, k9, kA, Option.getD_some] at hm)) | (refine wl_box (by rfl) rfl (by first | exact idV_cells _ | exact labV_cells _ _ | exact rectV_cells _ _ _ _ | rfl) hm ?_; clear hm; intro b1 w1 hm) | (go_at_call 46; refine (ho _).mono ?_; rintro e w1 ⟨rfl, hx⟩; replace hm := hm.call hx; clear hx) | (with_reducible first | refine stBs ?_ | refine stMs ?_ | refine stAp ?_ | refine stCo ?_ | (show wpList _ _ _ (⟨_, .convert 71 9 _, _, _, _, _⟩ :: _) _ _; refine Stop.mk ?_))); (try simp only [k4, k5, k6, Act.put, k1, k2, k3]))
      go_roundw
      case rel => exact ⟨k + 1, y, by have := HKN.out; omega, HY, rfl, by rw [HU.out], hm⟩
      case measure => (have := HK.out; simp [intOf]; try omega)
    · obtain rfl : x = 0 := by omega
      obtain rfl := HE.out k hk HX.out
      have ho := one_c k (by have := HN.out; omega)
      have hsz := bytesB_size k (digF v k)
      have hsz2 := bytesB_size 1 (fun _ => k % 256)
      obtain ⟨A, hA⟩ : ∃ A, (bytesB 1 fun _ => k % 256) = A := ⟨_, rfl⟩
      obtain ⟨B, hB⟩ : ∃ B, bytesB k (digF v k) = B := ⟨_, rfl⟩
      rw [hA] at ho hsz2
      rw [hB] at hsz ⊢
      have HA := hid hA
      have HB := hid hB
      have f4 : IntKind.u64.wrap (k : Int) = (k : Int) := wrap_u64 (by omega) (by have := HN.out; omega)
      have hs3 : ¬ 9223372036854775807 < 1 + k := by have := HN.out; omega
      clear hA hB hk
      go_wp2_with ((first | refine wpList_skip (by rfl) ?_ | (refine wlL (hm := hm) (hu := by first | exact undID | exact undLabel) (hi := by (try simp only [rowOf_size, idC_size]); first | exact sizeID | exact sizeLabel) (h := ?_); (try simp only [Act.put, k1, k2, k3]); (try simp only [← labV_eq, ← idV_eq])) | refine wlLC (hm := hm) (hv := by first | exact C1.out | rfl) (hu := by first | exact undByteI | exact undInt | exact undU64) (h := ?_) | (refine wlS (hm := hm) (hv := (by first | rfl | exact idV_eq _ | exact labV_eq _ _ | exact rectV_eq _ _ _ _)) (hi := by (try simp only [rowOf_size, idC_size]); first | exact sizeID | exact sizeLabel) (hs := by first | (simp only [rowOf_size, idC_size]; done) | rfl) (h1 := by first | rfl | exact idC_one _ | exact rowOf_one _ _ (fun _ _ => rfl) | (simp only [List.size_toArray, List.length_cons, List.all_toArray', List.all_cons, List.all_nil, Value.oneCell', Bool.and_true, Bool.and_self]; done) | (simp [Value.oneCell']; done)) (h := ?_); clear hm; intro w1 hm; (try simp only [rowOf_set, k1, k2, k3, Value.cells, Act.eval, k7, k8, k9, kA, Option.getD_some] at hm)) | (refine wlSC (hm := hm) (hi := by first | exact sizeByteI | exact sizeInt | exact sizeU64) (ho := by first | decide | (simp only [rowOf_size, idC_size]; omega) | (simp; done)) (h := ?_); clear hm; intro w1 hm; (try simp only [rowOf_set, k1, k2, k3, Value.cells, Act.eval, k7, k8, k9, kA, Option.getD_some] at hm)) | (refine wlA (hz := by first | exact zeroID | exact zeroLabel) (hm := hm) (h := ?_); clear hm; intro b1 w1 hm; (try simp only [rowOf_set, k1, k2, k3, Value.cells, Act.eval, k7, k8, k9, kA, Option.getD_some] at hm)) | (refine wl_box (by rfl) rfl (by first | exact idV_cells _ | exact labV_cells _ _ | exact rectV_cells _ _ _ _ | rfl) hm ?_; clear hm; intro b1 w1 hm) | (go_at_call 46; refine (ho _).mono ?_; rintro e w1 ⟨rfl, hx⟩; replace hm := hm.call hx; clear hx) | (with_reducible first | refine stBs ?_ | refine stMs ?_ | refine stAp ?_ | refine stCo ?_ | (show wpList _ _ _ (⟨_, .convert 71 9 _, _, _, _, _⟩ :: _) _ _; refine Stop.mk ?_))); (try simp only [k4, k5, k6, Act.put, k1, k2, k3]))
      go_ret
      exact ⟨by rw [HA.out, HB.out] <;> rfl, hm.ext⟩
theorem refText_c5 (s : ByteArray) (hs : s.size < 2 ^ 62) : Says 15 #[.string s] (.string (bytesB (nB s.size + 1) (numF s.size) ++ s)) := by
  intro w
  have hn := refNumber_c s.size (by omega)
  have h8 := nB_8 s.size (by omega)
  have hz := bytesB_size (nB s.size + 1) (numF s.size)
  obtain ⟨A, hA⟩ : ∃ A, bytesB (nB s.size + 1) (numF s.size) = A := ⟨_, rfl⟩
  rw [hA] at hn hz ⊢
  obtain ⟨m, hm1⟩ : ∃ m, nB s.size + 1 = m := ⟨_, rfl⟩
  rw [hm1] at hz
  obtain ⟨k, hk⟩ : ∃ k, s.size = k := ⟨_, rfl⟩
  rw [hk] at hs h8 hm1 hn
  have f4 : IntKind.u64.wrap (k : Int) = (k : Int) := wrap_u64 (by omega) (by omega)
  have hs3 : ¬ 9223372036854775807 < m + k := by omega
  clear hA hm1 h8
  go_enter Try.func15, Try.ntmps15
  have hm := Mem.refl w []
  go_wp2_with ((first | refine wpList_skip (by rfl) ?_ | (refine wlL (hm := hm) (hu := by first | exact undID | exact undLabel) (hi := by (try simp only [rowOf_size, idC_size]); first | exact sizeID | exact sizeLabel) (h := ?_); (try simp only [Act.put, k1, k2, k3]); (try simp only [← labV_eq, ← idV_eq])) | refine wlLC (hm := hm) (hv := by first | exact C1.out | rfl) (hu := by first | exact undByteI | exact undInt | exact undU64) (h := ?_) | (refine wlS (hm := hm) (hv := (by first | rfl | exact idV_eq _ | exact labV_eq _ _ | exact rectV_eq _ _ _ _)) (hi := by (try simp only [rowOf_size, idC_size]); first | exact sizeID | exact sizeLabel) (hs := by first | (simp only [rowOf_size, idC_size]; done) | rfl) (h1 := by first | rfl | exact idC_one _ | exact rowOf_one _ _ (fun _ _ => rfl) | (simp only [List.size_toArray, List.length_cons, List.all_toArray', List.all_cons, List.all_nil, Value.oneCell', Bool.and_true, Bool.and_self]; done) | (simp [Value.oneCell']; done)) (h := ?_); clear hm; intro w1 hm; (try simp only [rowOf_set, k1, k2, k3, Value.cells, Act.eval, k7, k8, k9, kA, Option.getD_some] at hm)) | (refine wlSC (hm := hm) (hi := by first | exact sizeByteI | exact sizeInt | exact sizeU64) (ho := by first | decide | (simp only [rowOf_size, idC_size]; omega) | (simp; done)) (h := ?_); clear hm; intro w1 hm; (try simp only [rowOf_set, k1, k2, k3, Value.cells, Act.eval, k7, k8, k9, kA, Option.getD_some] at hm)) | (refine wlA (hz := by first | exact zeroID | exact zeroLabel) (hm := hm) (h := ?_); clear hm; intro b1 w1 hm; (try simp only [rowOf_set, k1, k2, k3, Value.cells, Act.eval, k7, k8, k9, kA, Option.getD_some] at hm)) | (refine wl_box (by rfl) rfl (by first | exact idV_cells _ | exact labV_cells _ _ | exact rectV_cells _ _ _ _ | rfl) hm ?_; clear hm; intro b1 w1 hm) | (go_at_call 20; refine (hn _).mono ?_; rintro e w1 ⟨rfl, hx⟩; replace hm := hm.call hx; clear hx) | (with_reducible first | refine stBs ?_ | refine stMs ?_ | refine stAp ?_ | refine stCo ?_ | (show wpList _ _ _ (⟨_, .convert 71 9 _, _, _, _, _⟩ :: _) _ _; refine Stop.mk ?_))); (try simp only [k4, k5, k6, Act.put, k1, k2, k3]))
  go_ret
  exact ⟨rfl, hm.ext⟩
theorem putNumber_go (b : ByteArray) (v : Int) (F : Nat → Nat) (m : Nat) (hb : b.size + m < 2 ^ 62) (hc : ∀ w, Calls Try.prog 47 #[.int .u64 v] w (BytesIn F m w)) :
    Says 19 #[.string b, .int .u64 v] (.string (b ++ bytesB m F)) := by
  intro w
  have hz := bytesB_size m F
  have HB := hid hb
  go_enter Try.func19, Try.ntmps19
  have hm := Mem.refl w []
  go_wp2_with (with_reducible first | refine stAl ?_ | refine stBo ?_ | refine stLo ?_ | refine stSo ?_ | refine stBu ?_ | refine stBs ?_ | refine stMs ?_ | refine stAp ?_ | refine stCo ?_ | (show wpList _ _ _ (⟨_, .convert 71 9 _, _, _, _, _⟩ :: _) _ _; refine Stop.mk ?_))
  refine (hc _).mono ?_
  rintro e w2 ⟨g, cap, cur, rfl, hr, hx⟩
  replace hm := Mem.callOwn (B := []) hm hx
  simp only [List.append_nil] at hm
  clear hx hc hb
  go_wp2_with ((first | refine wpList_skip (by rfl) ?_ | (refine wlL (hm := hm) (hu := by first | exact undID | exact undLabel) (hi := by (try simp only [rowOf_size, idC_size]); first | exact sizeID | exact sizeLabel) (h := ?_); (try simp only [Act.put, k1, k2, k3]); (try simp only [← labV_eq, ← idV_eq])) | refine wlLC (hm := hm) (hv := by first | exact C1.out | rfl) (hu := by first | exact undByteI | exact undInt | exact undU64) (h := ?_) | (refine wlS (hm := hm) (hv := (by first | rfl | exact idV_eq _ | exact labV_eq _ _ | exact rectV_eq _ _ _ _)) (hi := by (try simp only [rowOf_size, idC_size]); first | exact sizeID | exact sizeLabel) (hs := by first | (simp only [rowOf_size, idC_size]; done) | rfl) (h1 := by first | rfl | exact idC_one _ | exact rowOf_one _ _ (fun _ _ => rfl) | (simp only [List.size_toArray, List.length_cons, List.all_toArray', List.all_cons, List.all_nil, Value.oneCell', Bool.and_true, Bool.and_self]; done) | (simp [Value.oneCell']; done)) (h := ?_); clear hm; intro w1 hm; (try simp only [rowOf_set, k1, k2, k3, Value.cells, Act.eval, k7, k8, k9, kA, Option.getD_some] at hm)) | (refine wlSC (hm := hm) (hi := by first | exact sizeByteI | exact sizeInt | exact sizeU64) (ho := by first | decide | (simp only [rowOf_size, idC_size]; omega) | (simp; done)) (h := ?_); clear hm; intro w1 hm; (try simp only [rowOf_set, k1, k2, k3, Value.cells, Act.eval, k7, k8, k9, kA, Option.getD_some] at hm)) | (refine wlA (hz := by first | exact zeroID | exact zeroLabel) (hm := hm) (h := ?_); clear hm; intro b1 w1 hm; (try simp only [rowOf_set, k1, k2, k3, Value.cells, Act.eval, k7, k8, k9, kA, Option.getD_some] at hm)) | (refine wl_box (by rfl) rfl (by first | exact idV_cells _ | exact labV_cells _ _ | exact rectV_cells _ _ _ _ | rfl) hm ?_; clear hm; intro b1 w1 hm) | (with_reducible first | refine stBs ?_ | refine stMs ?_ | refine stAp ?_ | refine stCo ?_ | (show wpList _ _ _ (⟨_, .convert 71 9 _, _, _, _, _⟩ :: _) _ _; refine Stop.mk ?_))); (try simp only [k4, k5, k6, Act.put, k1, k2, k3]))
  have hrs := run_toString (P := Try.prog) undBytesI undByteI undStrI hm (i := 0) (off := 0) (n := m) (cap := m) rfl F (fun j hj => by rw [Nat.zero_add]; exact hr.2.2.2 j hj)
  have hs3 : ¬ 9223372036854775807 < b.size + m := by have := HB.out; omega
  clear hr
  refine Stop.go ?_
  go_wp2
  go_ret
  exact ⟨rfl, hm.ext⟩
theorem putNumber_c (b : ByteArray) (v : Nat) (hv : v < 2 ^ 64) (hb : b.size < 2 ^ 61) : Says 19 #[.string b, .int .u64 (v : Int)] (.string (b ++ bytesB (nB v + 1) (numF v))) :=
  putNumber_go b v _ _ (by have := nB_8 v hv; omega) (wireNumber_c v hv)
theorem putText_long (b s : ByteArray) (h : 4096 < s.size) : Says 13 #[.string b, .string s] (.tuple #[.string { data := #[] }, .int .i64 2]) := by
  intro w
  go_enter Try.func13, Try.ntmps13
  have hm := Mem.refl w []
  go_wp2_with ((first | refine wpList_skip (by rfl) ?_ | (refine wlL (hm := hm) (hu := by first | exact undID | exact undLabel) (hi := by (try simp only [rowOf_size, idC_size]); first | exact sizeID | exact sizeLabel) (h := ?_); (try simp only [Act.put, k1, k2, k3]); (try simp only [← labV_eq, ← idV_eq])) | refine wlLC (hm := hm) (hv := by first | exact C1.out | rfl) (hu := by first | exact undByteI | exact undInt | exact undU64) (h := ?_) | (refine wlS (hm := hm) (hv := (by first | rfl | exact idV_eq _ | exact labV_eq _ _ | exact rectV_eq _ _ _ _)) (hi := by (try simp only [rowOf_size, idC_size]); first | exact sizeID | exact sizeLabel) (hs := by first | (simp only [rowOf_size, idC_size]; done) | rfl) (h1 := by first | rfl | exact idC_one _ | exact rowOf_one _ _ (fun _ _ => rfl) | (simp only [List.size_toArray, List.length_cons, List.all_toArray', List.all_cons, List.all_nil, Value.oneCell', Bool.and_true, Bool.and_self]; done) | (simp [Value.oneCell']; done)) (h := ?_); clear hm; intro w1 hm; (try simp only [rowOf_set, k1, k2, k3, Value.cells, Act.eval, k7, k8, k9, kA, Option.getD_some] at hm)) | (refine wlSC (hm := hm) (hi := by first | exact sizeByteI | exact sizeInt | exact sizeU64) (ho := by first | decide | (simp only [rowOf_size, idC_size]; omega) | (simp; done)) (h := ?_); clear hm; intro w1 hm; (try simp only [rowOf_set, k1, k2, k3, Value.cells, Act.eval, k7, k8, k9, kA, Option.getD_some] at hm)) | (refine wlA (hz := by first | exact zeroID | exact zeroLabel) (hm := hm) (h := ?_); clear hm; intro b1 w1 hm; (try simp only [rowOf_set, k1, k2, k3, Value.cells, Act.eval, k7, k8, k9, kA, Option.getD_some] at hm)) | (refine wl_box (by rfl) rfl (by first | exact idV_cells _ | exact labV_cells _ _ | exact rectV_cells _ _ _ _ | rfl) hm ?_; clear hm; intro b1 w1 hm) | (with_reducible first | refine stBs ?_ | refine stMs ?_ | refine stAp ?_ | refine stCo ?_ | (show wpList _ _ _ (⟨_, .convert 71 9 _, _, _, _, _⟩ :: _) _ _; refine Stop.mk ?_))); (try simp only [k4, k5, k6, Act.put, k1, k2, k3]))
  go_ret2
  exact ⟨rfl, hm.ext⟩
theorem putText_go (b s t : ByteArray) (k : Nat) (hk : s.size = k) (h : k ≤ 4096) (ht : t.size < 2 ^ 62) (hn : Says 19 #[.string b, .int .u64 (k : Int)] (.string t)) : Says 13 #[.string b, .string s] (.tuple #[.string (t ++ s), .int .i64 0]) := by
  intro w
  have f4 : IntKind.u64.wrap (k : Int) = (k : Int) := wrap_u64 (by omega) (by omega)
  have h0 : ¬ 4096 < k := by omega
  have hs3 : ¬ 9223372036854775807 < t.size + k := by omega
  clear h ht
  go_enter Try.func13, Try.ntmps13
  have hm := Mem.refl w []
  go_wp2_with ((first | refine wpList_skip (by rfl) ?_ | (refine wlL (hm := hm) (hu := by first | exact undID | exact undLabel) (hi := by (try simp only [rowOf_size, idC_size]); first | exact sizeID | exact sizeLabel) (h := ?_); (try simp only [Act.put, k1, k2, k3]); (try simp only [← labV_eq, ← idV_eq])) | refine wlLC (hm := hm) (hv := by first | exact C1.out | rfl) (hu := by first | exact undByteI | exact undInt | exact undU64) (h := ?_) | (refine wlS (hm := hm) (hv := (by first | rfl | exact idV_eq _ | exact labV_eq _ _ | exact rectV_eq _ _ _ _)) (hi := by (try simp only [rowOf_size, idC_size]); first | exact sizeID | exact sizeLabel) (hs := by first | (simp only [rowOf_size, idC_size]; done) | rfl) (h1 := by first | rfl | exact idC_one _ | exact rowOf_one _ _ (fun _ _ => rfl) | (simp only [List.size_toArray, List.length_cons, List.all_toArray', List.all_cons, List.all_nil, Value.oneCell', Bool.and_true, Bool.and_self]; done) | (simp [Value.oneCell']; done)) (h := ?_); clear hm; intro w1 hm; (try simp only [rowOf_set, k1, k2, k3, Value.cells, Act.eval, k7, k8, k9, kA, Option.getD_some] at hm)) | (refine wlSC (hm := hm) (hi := by first | exact sizeByteI | exact sizeInt | exact sizeU64) (ho := by first | decide | (simp only [rowOf_size, idC_size]; omega) | (simp; done)) (h := ?_); clear hm; intro w1 hm; (try simp only [rowOf_set, k1, k2, k3, Value.cells, Act.eval, k7, k8, k9, kA, Option.getD_some] at hm)) | (refine wlA (hz := by first | exact zeroID | exact zeroLabel) (hm := hm) (h := ?_); clear hm; intro b1 w1 hm; (try simp only [rowOf_set, k1, k2, k3, Value.cells, Act.eval, k7, k8, k9, kA, Option.getD_some] at hm)) | (refine wl_box (by rfl) rfl (by first | exact idV_cells _ | exact labV_cells _ _ | exact rectV_cells _ _ _ _ | rfl) hm ?_; clear hm; intro b1 w1 hm) | (go_at_call 19; refine (hn _).mono ?_; rintro e w1 ⟨rfl, hx⟩; replace hm := hm.call hx; clear hx) | (with_reducible first | refine stBs ?_ | refine stMs ?_ | refine stAp ?_ | refine stCo ?_ | (show wpList _ _ _ (⟨_, .convert 71 9 _, _, _, _, _⟩ :: _) _ _; refine Stop.mk ?_))); (try simp only [k4, k5, k6, Act.put, k1, k2, k3]))
  go_ret2
  exact ⟨rfl, hm.ext⟩
theorem putText_c (b s : ByteArray) (h : s.size ≤ 4096) (hb : b.size < 2 ^ 61) : Says 13 #[.string b, .string s] (.tuple #[.string (b ++ (bytesB (nB s.size + 1) (numF s.size) ++ s)), .int .i64 0]) := by
  rw [← ByteArray.append_assoc]
  exact putText_go b s _ s.size rfl h (by rw [ByteArray.size_append, bytesB_size]; have := nB_8 s.size (by omega); omega) (putNumber_c b s.size (by omega) hb)
theorem putPlace_c (b : ByteArray) (a : Nat) (hb : b.size < 2 ^ 61) : Says 21 #[.string b, idV a] (.string (b ++ bytesB 20 (dig a))) := by
  intro w
  have hz := bytesB_size 20 (dig a)
  have hs3 : ¬ 9223372036854775807 < b.size + 20 := by omega
  clear hb
  go_enter Try.func21, Try.ntmps21
  have hm := Mem.refl w []
  go_wp2_with (with_reducible first | refine stAl ?_ | refine stBo ?_ | refine stLo ?_ | refine stSo ?_ | refine stBu ?_ | refine stBs ?_ | refine stMs ?_ | refine stAp ?_ | refine stCo ?_ | (show wpList _ _ _ (⟨_, .convert 71 9 _, _, _, _, _⟩ :: _) _ _; refine Stop.mk ?_)); refine Stop.go (wl_box (by rfl) rfl (idV_cells a) hm ?_); clear hm; intro b1 w1 hm; simp only [Act.put, k1, k2, k3]; (try simp only [rowOf_set, k1, k2, k3, Value.cells, Act.eval, k7, k8, k9, kA, Option.getD_some] at hm)
  go_wp2_with ((first | refine wpList_skip (by rfl) ?_ | (refine wlL (hm := hm) (hu := by first | exact undID | exact undLabel) (hi := by (try simp only [rowOf_size, idC_size]); first | exact sizeID | exact sizeLabel) (h := ?_); (try simp only [Act.put, k1, k2, k3]); (try simp only [← labV_eq, ← idV_eq])) | refine wlLC (hm := hm) (hv := by first | exact C1.out | rfl) (hu := by first | exact undByteI | exact undInt | exact undU64) (h := ?_) | (refine wlS (hm := hm) (hv := (by first | rfl | exact idV_eq _ | exact labV_eq _ _ | exact rectV_eq _ _ _ _)) (hi := by (try simp only [rowOf_size, idC_size]); first | exact sizeID | exact sizeLabel) (hs := by first | (simp only [rowOf_size, idC_size]; done) | rfl) (h1 := by first | rfl | exact idC_one _ | exact rowOf_one _ _ (fun _ _ => rfl) | (simp only [List.size_toArray, List.length_cons, List.all_toArray', List.all_cons, List.all_nil, Value.oneCell', Bool.and_true, Bool.and_self]; done) | (simp [Value.oneCell']; done)) (h := ?_); clear hm; intro w1 hm; (try simp only [rowOf_set, k1, k2, k3, Value.cells, Act.eval, k7, k8, k9, kA, Option.getD_some] at hm)) | (refine wlSC (hm := hm) (hi := by first | exact sizeByteI | exact sizeInt | exact sizeU64) (ho := by first | decide | (simp only [rowOf_size, idC_size]; omega) | (simp; done)) (h := ?_); clear hm; intro w1 hm; (try simp only [rowOf_set, k1, k2, k3, Value.cells, Act.eval, k7, k8, k9, kA, Option.getD_some] at hm)) | (refine wlA (hz := by first | exact zeroID | exact zeroLabel) (hm := hm) (h := ?_); clear hm; intro b1 w1 hm; (try simp only [rowOf_set, k1, k2, k3, Value.cells, Act.eval, k7, k8, k9, kA, Option.getD_some] at hm)) | (refine wl_box (by rfl) rfl (by first | exact idV_cells _ | exact labV_cells _ _ | exact rectV_cells _ _ _ _ | rfl) hm ?_; clear hm; intro b1 w1 hm) | (with_reducible first | refine stBs ?_ | refine stMs ?_ | refine stAp ?_ | refine stCo ?_ | (show wpList _ _ _ (⟨_, .convert 71 9 _, _, _, _, _⟩ :: _) _ _; refine Stop.mk ?_))); (try simp only [k4, k5, k6, Act.put, k1, k2, k3]))
  have hrs := run_toString (P := Try.prog) undBytesI undByteI undStrI hm (i := 0) (off := 0) (n := 20) (cap := 20) rfl (dig a) (fun j hj => by rw [Nat.zero_add]; exact rowOf_get _ _ j hj)
  refine Stop.go ?_
  go_wp2
  go_ret
  exact ⟨rfl, hm.ext⟩
theorem refPlace_c5 (a : Nat) : Says 22 #[idV a] (.string (bytesB 20 (dig a))) := by
  intro w
  have H0 := hid (show bytesB 0 (dig a) = { data := #[] } from by unfold bytesB; rfl)
  go_enter Try.func22, Try.ntmps22
  have hm := Mem.refl w []
  go_wp2_with (with_reducible first | refine stAl ?_ | refine stBo ?_ | refine stLo ?_ | refine stSo ?_ | refine stBu ?_ | refine stBs ?_ | refine stMs ?_ | refine stAp ?_ | refine stCo ?_ | (show wpList _ _ _ (⟨_, .convert 71 9 _, _, _, _, _⟩ :: _) _ _; refine Stop.mk ?_)); refine Stop.go (wl_box (by rfl) rfl (idV_cells a) hm ?_); clear hm; intro b1 w1 hm; simp only [Act.put, k1, k2, k3]; (try simp only [rowOf_set, k1, k2, k3, Value.cells, Act.eval, k7, k8, k9, kA, Option.getD_some] at hm)
  go_wp2_with ((first | refine wpList_skip (by rfl) ?_ | (refine wlL (hm := hm) (hu := by first | exact undID | exact undLabel) (hi := by (try simp only [rowOf_size, idC_size]); first | exact sizeID | exact sizeLabel) (h := ?_); (try simp only [Act.put, k1, k2, k3]); (try simp only [← labV_eq, ← idV_eq])) | refine wlLC (hm := hm) (hv := by first | exact C1.out | rfl) (hu := by first | exact undByteI | exact undInt | exact undU64) (h := ?_) | (refine wlS (hm := hm) (hv := (by first | rfl | exact idV_eq _ | exact labV_eq _ _ | exact rectV_eq _ _ _ _)) (hi := by (try simp only [rowOf_size, idC_size]); first | exact sizeID | exact sizeLabel) (hs := by first | (simp only [rowOf_size, idC_size]; done) | rfl) (h1 := by first | rfl | exact idC_one _ | exact rowOf_one _ _ (fun _ _ => rfl) | (simp only [List.size_toArray, List.length_cons, List.all_toArray', List.all_cons, List.all_nil, Value.oneCell', Bool.and_true, Bool.and_self]; done) | (simp [Value.oneCell']; done)) (h := ?_); clear hm; intro w1 hm; (try simp only [rowOf_set, k1, k2, k3, Value.cells, Act.eval, k7, k8, k9, kA, Option.getD_some] at hm)) | (refine wlSC (hm := hm) (hi := by first | exact sizeByteI | exact sizeInt | exact sizeU64) (ho := by first | decide | (simp only [rowOf_size, idC_size]; omega) | (simp; done)) (h := ?_); clear hm; intro w1 hm; (try simp only [rowOf_set, k1, k2, k3, Value.cells, Act.eval, k7, k8, k9, kA, Option.getD_some] at hm)) | (refine wlA (hz := by first | exact zeroID | exact zeroLabel) (hm := hm) (h := ?_); clear hm; intro b1 w1 hm; (try simp only [rowOf_set, k1, k2, k3, Value.cells, Act.eval, k7, k8, k9, kA, Option.getD_some] at hm)) | (refine wl_box (by rfl) rfl (by first | exact idV_cells _ | exact labV_cells _ _ | exact rectV_cells _ _ _ _ | rfl) hm ?_; clear hm; intro b1 w1 hm) | (go_at_call 46; refine (ho _).mono ?_; rintro e w1 ⟨rfl, hx⟩; replace hm := hm.call hx; clear hx) | (with_reducible first | refine stBs ?_ | refine stMs ?_ | refine stAp ?_ | refine stCo ?_ | (show wpList _ _ _ (⟨_, .convert 71 9 _, _, _, _, _⟩ :: _) _ _; refine Stop.mk ?_))); (try simp only [k4, k5, k6, Act.put, k1, k2, k3]))
  go_loopw [3, 4] (fun vo vi wr => ∃ i : Nat, i ≤ 20 ∧ vi = .int .i64 (i : Int) ∧ vo = .string (bytesB i (dig a)) ∧ Mem w [] [(b1, .cells (idC a) 24 (0, 0))] wr)
    (fun _ vi _ => (20 - intOf vi).toNat)
  case atStart => exact ⟨0, by omega, rfl, by rw [H0.out], hm⟩
  case round =>
    clear hm
    obtain ⟨i, hi, rfl, rfl, hm⟩ := hrel
    by_cases h20 : i < 20
    · have e1 : (i : Int) < 20 := by omega
      have e2 : (0 : Int) ≤ (i : Int) := by omega
      have g1 : IntKind.i64.wrap ((i : Int) + 1) = (i : Int) + 1 := wrap_i64 (by omega) (by omega)
      have C1 := hid (show (idC a)[i]? = some (.int .u8 ((dig a i : Nat) : Int)) from rowOf_get _ _ i h20)
      have hdl := dig_lt a i
      have HU := hid (show bytesB i (dig a) ++ (bytesB 1 fun _ => dig a i % 256) = bytesB (i + 1) (dig a) from by
        rw [bytesB_append]
        refine bytesB_congr fun j hj => ?_
        split
        · rfl
        · rw [show i = j from by omega, Nat.mod_eq_of_lt (dig_lt a j)])
      have ho := one_c (dig a i) (by omega)
      have hs1 := bytesB_size i (dig a)
      have hs2 := bytesB_size 1 (fun _ => dig a i % 256)
      obtain ⟨x, hx⟩ : ∃ x, dig a i = x := ⟨_, rfl⟩
      rw [hx] at C1 hdl HU ho hs2
      have g2 : IntKind.u64.wrap (x : Int) = (x : Int) := wrap_u64 (by omega) (by omega)
      have hs3 : ¬ 9223372036854775807 < i + 1 := by omega
      obtain ⟨A, hA⟩ : ∃ A, bytesB i (dig a) = A := ⟨_, rfl⟩
      obtain ⟨B, hB⟩ : ∃ B, (bytesB 1 fun _ => x % 256) = B := ⟨_, rfl⟩
      rw [hA] at HU hs1 ⊢
      rw [hB] at HU hs2 ho
      clear hA hB hx hdl
      go_wp2_with ((first | refine wpList_skip (by rfl) ?_ | (refine wlL (hm := hm) (hu := by first | exact undID | exact undLabel) (hi := by (try simp only [rowOf_size, idC_size]); first | exact sizeID | exact sizeLabel) (h := ?_); (try simp only [Act.put, k1, k2, k3]); (try simp only [← labV_eq, ← idV_eq])) | refine wlLC (hm := hm) (hv := by first | exact C1.out | rfl) (hu := by first | exact undByteI | exact undInt | exact undU64) (h := ?_) | (refine wlS (hm := hm) (hv := (by first | rfl | exact idV_eq _ | exact labV_eq _ _ | exact rectV_eq _ _ _ _)) (hi := by (try simp only [rowOf_size, idC_size]); first | exact sizeID | exact sizeLabel) (hs := by first | (simp only [rowOf_size, idC_size]; done) | rfl) (h1 := by first | rfl | exact idC_one _ | exact rowOf_one _ _ (fun _ _ => rfl) | (simp only [List.size_toArray, List.length_cons, List.all_toArray', List.all_cons, List.all_nil, Value.oneCell', Bool.and_true, Bool.and_self]; done) | (simp [Value.oneCell']; done)) (h := ?_); clear hm; intro w1 hm; (try simp only [rowOf_set, k1, k2, k3, Value.cells, Act.eval, k7, k8, k9, kA, Option.getD_some] at hm)) | (refine wlSC (hm := hm) (hi := by first | exact sizeByteI | exact sizeInt | exact sizeU64) (ho := by first | decide | (simp only [rowOf_size, idC_size]; omega) | (simp; done)) (h := ?_); clear hm; intro w1 hm; (try simp only [rowOf_set, k1, k2, k3, Value.cells, Act.eval, k7, k8, k9, kA, Option.getD_some] at hm)) | (refine wlA (hz := by first | exact zeroID | exact zeroLabel) (hm := hm) (h := ?_); clear hm; intro b1 w1 hm; (try simp only [rowOf_set, k1, k2, k3, Value.cells, Act.eval, k7, k8, k9, kA, Option.getD_some] at hm)) | (refine wl_box (by rfl) rfl (by first | exact idV_cells _ | exact labV_cells _ _ | exact rectV_cells _ _ _ _ | rfl) hm ?_; clear hm; intro b1 w1 hm) | (go_at_call 46; refine (ho _).mono ?_; rintro e w1 ⟨rfl, hx⟩; replace hm := hm.call hx; clear hx) | (with_reducible first | refine stBs ?_ | refine stMs ?_ | refine stAp ?_ | refine stCo ?_ | (show wpList _ _ _ (⟨_, .convert 71 9 _, _, _, _, _⟩ :: _) _ _; refine Stop.mk ?_))); (try simp only [k4, k5, k6, Act.put, k1, k2, k3]))
      go_roundw
      case rel => exact ⟨i + 1, by omega, by go_num, by rw [HU.out], hm⟩
      case measure => (simp [intOf]; try omega)
    · obtain rfl : i = 20 := by omega
      go_wp2_with ((first | refine wpList_skip (by rfl) ?_ | (refine wlL (hm := hm) (hu := by first | exact undID | exact undLabel) (hi := by (try simp only [rowOf_size, idC_size]); first | exact sizeID | exact sizeLabel) (h := ?_); (try simp only [Act.put, k1, k2, k3]); (try simp only [← labV_eq, ← idV_eq])) | refine wlLC (hm := hm) (hv := by first | exact C1.out | rfl) (hu := by first | exact undByteI | exact undInt | exact undU64) (h := ?_) | (refine wlS (hm := hm) (hv := (by first | rfl | exact idV_eq _ | exact labV_eq _ _ | exact rectV_eq _ _ _ _)) (hi := by (try simp only [rowOf_size, idC_size]); first | exact sizeID | exact sizeLabel) (hs := by first | (simp only [rowOf_size, idC_size]; done) | rfl) (h1 := by first | rfl | exact idC_one _ | exact rowOf_one _ _ (fun _ _ => rfl) | (simp only [List.size_toArray, List.length_cons, List.all_toArray', List.all_cons, List.all_nil, Value.oneCell', Bool.and_true, Bool.and_self]; done) | (simp [Value.oneCell']; done)) (h := ?_); clear hm; intro w1 hm; (try simp only [rowOf_set, k1, k2, k3, Value.cells, Act.eval, k7, k8, k9, kA, Option.getD_some] at hm)) | (refine wlSC (hm := hm) (hi := by first | exact sizeByteI | exact sizeInt | exact sizeU64) (ho := by first | decide | (simp only [rowOf_size, idC_size]; omega) | (simp; done)) (h := ?_); clear hm; intro w1 hm; (try simp only [rowOf_set, k1, k2, k3, Value.cells, Act.eval, k7, k8, k9, kA, Option.getD_some] at hm)) | (refine wlA (hz := by first | exact zeroID | exact zeroLabel) (hm := hm) (h := ?_); clear hm; intro b1 w1 hm; (try simp only [rowOf_set, k1, k2, k3, Value.cells, Act.eval, k7, k8, k9, kA, Option.getD_some] at hm)) | (refine wl_box (by rfl) rfl (by first | exact idV_cells _ | exact labV_cells _ _ | exact rectV_cells _ _ _ _ | rfl) hm ?_; clear hm; intro b1 w1 hm) | (go_at_call 46; refine (ho _).mono ?_; rintro e w1 ⟨rfl, hx⟩; replace hm := hm.call hx; clear hx) | (with_reducible first | refine stBs ?_ | refine stMs ?_ | refine stAp ?_ | refine stCo ?_ | (show wpList _ _ _ (⟨_, .convert 71 9 _, _, _, _, _⟩ :: _) _ _; refine Stop.mk ?_))); (try simp only [k4, k5, k6, Act.put, k1, k2, k3]))
      go_ret
      exact ⟨rfl, hm.ext⟩
end Go.Proofs.Ytijkmbebfodhdaa
