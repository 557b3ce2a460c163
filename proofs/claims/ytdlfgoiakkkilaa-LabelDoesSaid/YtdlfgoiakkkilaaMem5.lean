/-
  The symbolic heap, continued: a range over a string.
-/
import Derived.Test.YtdlfgoiakkkilaaMem4
import Derived.Laws.RangeString
namespace Go.Proofs.Ytdlfgoiakkkilaa
open Go.RowKit
set_option linter.unusedSimpArgs false
set_option linter.unusedVariables false
section
variable {P : Program} {ops : Array Oper} {Q : Exit → Act → World → Prop} {rest : List Oper} {a : Act} {w0 w : World} {own : List Nat} {L : List (Nat × Obj)}
  {dst : Option Tmp} {ty : TypeId} {pos : String} {aft : Array Edge} {gd : Option (Nat × Bool)}

theorem wl_range {T : TypeId} {x : Operand} {s : ByteArray} (hw : Region.wanted ⟨dst, .range T x, ty, pos, aft, gd⟩ (yielded ops a.tmps) = true) (hm : Mem w0 own L w)
    (hu : P.underlying T = some .string) (hx : a.eval x = .string s)
    (h : ∀ b w', Mem w0 own ((b, .stringIter s 0) :: L) w' → wpList P ops Q rest (a.put dst (.pointer (some ⟨b, 0, none⟩))) w') : wpList P ops Q (⟨dst, .range T x, ty, pos, aft, gd⟩ :: rest) a w :=
  wl_op hw fun K hK => by
    unfold Oper.wp execOp
    simp only [hx, Sem.run_bind, Sem.run_pure, Result.andThen_ok, run_range_string w T s hu, Oper.upon]
    exact hK _ _ (h _ _ (hm.alloc _))

theorem run_next_mem {s : ByteArray} {i b p : Nat} (hm : Mem w0 own L w) (hL : L[i]? = some (b, .stringIter s p)) (hp : p < s.size) (ha : (s[p]'hp).toNat < 128) (ty : TypeId) :
    (Instr.next (.pointer (some ⟨b, 0, none⟩)) true ty).run P w = .ok (.tuple #[.bool true, .int .i64 (p : Int), .int .i32 (((s[p]'hp).toNat : Nat) : Int)]) { w with heap := w.heap.setIfInBounds b (.stringIter s (p + 1)) } := by
  have hb := hm.heap hL
  simp only [Instr.next, getObj, setObj, Sem.run_bind, Sem.run, hb, Result.andThen, hp, if_true, decode_ascii s p hp ha]
  simp [goInt, Sem.run, hb]

theorem Mem.setIter {s : ByteArray} {i b p : Nat} (hm : Mem w0 own L w) (hL : L[i]? = some (b, .stringIter s p)) (q : Nat) :
    Mem w0 own (L.set i (b, .stringIter s q)) { w with heap := w.heap.setIfInBounds b (.stringIter s q) } := by
  have hlt := hm.lt (List.mem_of_getElem? hL)
  refine hm.setObj hL rfl rfl rfl (by simp) (fun k _ hk => ?_) ?_
  · simp [Array.getElem?_setIfInBounds, Ne.symm hk]
  · simp [Array.getElem?_setIfInBounds, hlt]

theorem wl_next {x : Operand} {s : ByteArray} {i b p c : Nat} (hw : Region.wanted ⟨dst, .next x true, ty, pos, aft, gd⟩ (yielded ops a.tmps) = true) (hm : Mem w0 own L w)
    (hL : L[i]? = some (b, .stringIter s p)) (hx : a.eval x = .pointer (some ⟨b, 0, none⟩)) (hp : p < s.size) (hc : (s[p]'hp).toNat = c) (ha : c < 128)
    (h : ∀ w', Mem w0 own (L.set i (b, .stringIter s (p + 1))) w' → wpList P ops Q rest (a.put dst (.tuple #[.bool true, .int .i64 (p : Int), .int .i32 (c : Int)])) w') : wpList P ops Q (⟨dst, .next x true, ty, pos, aft, gd⟩ :: rest) a w :=
  wl_op hw fun K hK => by
    subst hc
    unfold Oper.wp execOp
    simp only [hx, Sem.run_bind, Sem.run_pure, Result.andThen_ok, run_next_mem hm hL hp ha, Oper.upon]
    exact hK _ _ (h _ (hm.setIter hL _))

theorem wl_next_end {x : Operand} {s : ByteArray} {i b p : Nat} (hw : Region.wanted ⟨dst, .next x true, ty, pos, aft, gd⟩ (yielded ops a.tmps) = true) (hm : Mem w0 own L w)
    (hL : L[i]? = some (b, .stringIter s p)) (hx : a.eval x = .pointer (some ⟨b, 0, none⟩)) (hp : ¬ p < s.size)
    (h : wpList P ops Q rest (a.put dst (.tuple #[.bool false])) w) : wpList P ops Q (⟨dst, .next x true, ty, pos, aft, gd⟩ :: rest) a w :=
  wl_op hw fun K hK => by
    have hb := hm.heap hL
    have hr : (Instr.next (.pointer (some ⟨b, 0, none⟩)) true ty).run P w = .ok (.tuple #[.bool false]) w := by
      simp [Instr.next, getObj, Sem.run, hb, hp]
    unfold Oper.wp execOp
    simp only [hx, Sem.run_bind, Sem.run_pure, Result.andThen_ok, hr, Oper.upon]
    exact hK _ _ h
end
end Go.Proofs.Ytdlfgoiakkkilaa
