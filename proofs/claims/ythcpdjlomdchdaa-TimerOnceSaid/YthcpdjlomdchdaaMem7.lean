/-
  The symbolic heap, continued: callees that own blocks of ours; bytes of a string appended.
-/
import Derived.Test.YthcpdjlomdchdaaMem6
import Derived.Lib.AppendStr
namespace Go.Proofs.Ythcpdjlomdchdaa
open Go.RowKit
set_option linter.unusedSimpArgs false
set_option linter.unusedVariables false

theorem Mem.start {w : World} {b : Nat} {o : Obj} (h : w.heap[b]? = some o) : Mem w [b] [(b, o)] w :=
  ⟨rfl, rfl, rfl, Nat.le_refl _, fun _ _ _ => rfl, fun p hp => by rw [List.mem_singleton.1 hp]; exact h, fun p hp => by rw [List.mem_singleton.1 hp]; exact Or.inr (List.mem_singleton.2 rfl),
   fun i j p q hi hj _ => by
    have h1 := (List.getElem?_eq_some_iff.1 hi).1
    have h2 := (List.getElem?_eq_some_iff.1 hj).1
    simp at h1 h2
    omega⟩
theorem Mem.start2 {w : World} {b c : Nat} {o u : Obj} (h : w.heap[b]? = some o) (k : w.heap[c]? = some u) (hbc : b ≠ c) : Mem w [b, c] [(b, o), (c, u)] w :=
  ⟨rfl, rfl, rfl, Nat.le_refl _, fun _ _ _ => rfl, fun p hp => by
    rcases List.mem_cons.1 hp with rfl | hp
    · exact h
    · rw [List.mem_singleton.1 hp]; exact k,
   fun p hp => by
    rcases List.mem_cons.1 hp with rfl | hp
    · exact Or.inr (List.mem_cons_self ..)
    · rw [List.mem_singleton.1 hp]; exact Or.inr (List.mem_cons_of_mem _ (List.mem_cons_self ..)),
   fun i j p q hi hj e => by
    match i, j with
    | 0, 0 => rfl
    | 0, 1 => simp at hi hj; rw [← hi, ← hj] at e; exact (hbc e).elim
    | 1, 0 => simp at hi hj; rw [← hi, ← hj] at e; exact (hbc e.symm).elim
    | 1, 1 => rfl
    | i + 2, _ => simp at hi
    | 0, j + 2 => simp at hj
    | 1, j + 2 => simp at hj⟩

theorem Mem.ne {w0 w : World} {own : List Nat} {L : List (Nat × Obj)} (h : Mem w0 own L w) {i j : Nat} {p q : Nat × Obj} (hi : L[i]? = some p) (hj : L[j]? = some q) (hij : i ≠ j) : p.1 ≠ q.1 := fun e => hij (h.apart i j p q hi hj e)

/-- Behind a callee that owned the blocks of B: it hands M back. -/
theorem Mem.callOwn {w0 w w' : World} {own : List Nat} {A B M : List (Nat × Obj)} (h : Mem w0 own (B ++ A) w) (hx : Mem w (B.map (·.1)) M w') : Mem w0 own (M ++ A) w' := by
  have far : ∀ p, p ∈ A → p.1 ∉ B.map (·.1) := fun p hp hq => by
    obtain ⟨q, hqB, e⟩ := List.mem_map.1 hq
    obtain ⟨i, hi⟩ := List.mem_iff_getElem?.1 hqB
    obtain ⟨j, hj⟩ := List.mem_iff_getElem?.1 hp
    have hil : i < B.length := (List.getElem?_eq_some_iff.1 hi).1
    have := h.apart i (B.length + j) q p (by rw [List.getElem?_append_left hil]; exact hi) (by rw [List.getElem?_append_right (by omega), Nat.add_sub_cancel_left]; exact hj) e
    omega
  have inA : ∀ p, p ∈ A → p ∈ B ++ A := fun p hp => List.mem_append.2 (Or.inr hp)
  have mayM : ∀ p, p ∈ M → w.heap.size ≤ p.1 ∨ p.1 ∈ B.map (·.1) := hx.may
  refine ⟨hx.os.trans h.os, hx.tape.trans h.tape, hx.output.trans h.output, Nat.le_trans h.size hx.size, fun k hk hn => ?_, fun p hp => ?_, fun p hp => ?_, fun i j p q hi hj e => ?_⟩
  · have hkB : k ∉ B.map (·.1) := fun hq => by
      obtain ⟨q, hqB, e⟩ := List.mem_map.1 hq
      rcases h.may q (List.mem_append.2 (Or.inl hqB)) with hm | hm
      · omega
      · exact hn (by rw [← e]; exact hm)
    rw [hx.old k (Nat.lt_of_lt_of_le hk h.size) hkB]
    exact h.old k hk hn
  · rcases List.mem_append.1 hp with hp | hp
    · exact hx.has p hp
    · rw [hx.old p.1 (h.lt (inA p hp)) (far p hp)]
      exact h.has p (inA p hp)
  · rcases List.mem_append.1 hp with hp | hp
    · rcases mayM p hp with hm | hm
      · exact Or.inl (Nat.le_trans h.size hm)
      · obtain ⟨q, hqB, e⟩ := List.mem_map.1 hm
        rw [← e]
        exact h.may q (List.mem_append.2 (Or.inl hqB))
    · exact h.may p (inA p hp)
  · have apartAM : ∀ (p q : Nat × Obj), p ∈ M → q ∈ A → p.1 ≠ q.1 := fun p q hp hq e => by
      rcases mayM p hp with hm | hm
      · have := h.lt (inA q hq); omega
      · exact far q hq (by rw [← e]; exact hm)
    by_cases hiM : i < M.length
    · rw [List.getElem?_append_left hiM] at hi
      by_cases hjM : j < M.length
      · rw [List.getElem?_append_left hjM] at hj
        exact hx.apart i j p q hi hj e
      · rw [List.getElem?_append_right (by omega)] at hj
        exact (apartAM p q (List.mem_of_getElem? hi) (List.mem_of_getElem? hj) e).elim
    · rw [List.getElem?_append_right (by omega)] at hi
      by_cases hjM : j < M.length
      · rw [List.getElem?_append_left hjM] at hj
        exact (apartAM q p (List.mem_of_getElem? hj) (List.mem_of_getElem? hi) e.symm).elim
      · rw [List.getElem?_append_right (by omega)] at hj
        have := h.apart (B.length + (i - M.length)) (B.length + (j - M.length)) p q (by rw [List.getElem?_append_right (by omega), Nat.add_sub_cancel_left]; exact hi) (by rw [List.getElem?_append_right (by omega), Nat.add_sub_cancel_left]; exact hj) e
        omega

theorem Mem.shape {w0 w : World} {own : List Nat} {L : List (Nat × Obj)} (h : Mem w0 own L w) {i b : Nat} {cs : Array Value} {T : TypeId} {fr : Nat × Nat} (hL : L[i]? = some (b, .cells cs T fr)) : w.shape? b = some (T, cs.size) := by
  simp [World.shape?, h.heap hL]

section
variable {P : Program} {ops : Array Oper} {Q : Exit → Act → World → Prop} {rest : List Oper} {a : Act} {w0 w : World} {own : List Nat} {L : List (Nat × Obj)}
  {dst : Option Tmp} {ty : TypeId} {pos : String} {aft : Array Edge} {gd : Option (Nat × Bool)} {K : Act → World → Prop}
/-- 'append' of a string's bytes onto a nil slice. -/
theorem ow_append_nil_str {T U E : TypeId} {x y : Operand} {s : ByteArray} (hm : Mem w0 own L w) (hel : El P T E 1 1 (.int .u8 0)) (hu : P.underlying U = some .string) (hx : a.eval x = .slice none 0 0) (hy : a.eval y = .string s) (h0 : 0 < s.size) (hb : s.size ≤ 140737488355328)
    (h : ∀ g' cap' cur' w', Mem w0 own ((g', .cells cur' E (0, 0)) :: L) w' → s.size ≤ cap' → cap' < 2 ^ 63 → cur'.size = cap' → (∀ j, j < s.size → cur'[j]? = (s.data.toList[j]?).map fun b => .int .u8 b.toNat) →
      K (a.put dst (.slice (some ⟨g', 0, none⟩) s.size cap')) w') : Oper.wp P ⟨dst, .call ⟨.builtin .append, #[x, y], #[T, U]⟩, ty, pos, aft, gd⟩ a w K Q := by
  obtain ⟨ht, it, hi, hs1, hby, hzz⟩ := hel
  have hr := run_append_nil_string (P := P) w T U ty E it (.int .u8 0) ht hu hi hzz s h0 (by omega) (by rw [hby]; omega)
  unfold Oper.wp execOp
  simp only [resolve, invoke, builtin, Sem.run_bind, Sem.run_pure, Result.andThen_ok, List.map_toArray, List.map_cons, List.map_nil, hx, hy, hr]
  have hge := grownCap_le w s.size 0 E
  have hsd : s.data.size = s.size := rfl
  refine h _ _ _ _ (hm.drew.alloc _) hge (grownCap_max w _ _ _ (by omega)) ?_ ?_
  · simp only [Array.size_append, Array.size_map, zeroCells_size, hsd]
    show s.size + (grownCap w s.size 0 E - s.size) * 1 = _
    omega
  · intro j hj
    rw [Array.getElem?_append_left (by rw [Array.size_map, hsd]; exact hj), Array.getElem?_map, ← Array.getElem?_toList]
end
end Go.Proofs.Ythcpdjlomdchdaa
