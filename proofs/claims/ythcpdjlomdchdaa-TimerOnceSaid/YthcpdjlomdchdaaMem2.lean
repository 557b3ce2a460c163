/-
  The symbolic heap, continued: slices that the call made, appended to and read; bytes and strings.
-/
import Derived.Test.YthcpdjlomdchdaaMem
namespace Go.Proofs.Ythcpdjlomdchdaa
open Go.RowKit
set_option linter.unusedSimpArgs false
set_option linter.unusedVariables false

/-- T is a slice type over E, whose values take sz cells. -/
def El (P : Program) (T E : TypeId) (sz bytes : Nat) (z : Value) : Prop := P.underlying T = some (.slice E) ∧ ∃ i, P.info? E = some i ∧ i.size = sz ∧ i.bytes = bytes ∧ i.zero = some z

theorem El.mk {P : Program} {T E : TypeId} {sz bytes : Nat} {z : Value} (h : P.underlying T = some (.slice E)) (hi : (P.info? E).map (fun i => (i.zero, i.size, i.bytes)) = some (some z, sz, bytes)) : El P T E sz bytes z := by
  refine ⟨h, ?_⟩
  cases hq : P.info? E with
  | none => simp [hq] at hi
  | some i =>
    simp [hq] at hi
    exact ⟨i, rfl, hi.2.1, hi.2.2, hi.1⟩

section
variable {w0 w w' : World} {own : List Nat} {L : List (Nat × Obj)}

/-- A new block takes the place of another one in the list. -/
theorem Mem.moved {b : Nat} {o : Obj} (h : Mem w0 own ((b, o) :: L) w) (i : Nat) : Mem w0 own (L.set i (b, o)) w := by
  have key : ∀ j p, (L.set i (b, o))[j]? = some p → (j = i ∧ p = (b, o)) ∨ (j ≠ i ∧ L[j]? = some p) := fun j p hj => by
    rw [List.getElem?_set] at hj
    split at hj
    · rename_i hij
      split at hj
      · exact Or.inl ⟨hij.symm, (Option.some.inj hj).symm⟩
      · cases hj
    · rename_i hij
      exact Or.inr ⟨fun e => hij e.symm, hj⟩
  have far : ∀ (j : Nat) (p : Nat × Obj), L[j]? = some p → p.1 ≠ b := fun j p hj e => by
    have := h.apart (j + 1) 0 p (b, o) (by simpa using hj) (by simp) e
    omega
  refine ⟨h.os, h.tape, h.output, h.size, h.old, fun p hp => ?_, fun p hp => ?_, fun j k p q hj hk e => ?_⟩
  · obtain ⟨j, hj⟩ := List.mem_iff_getElem?.1 hp
    rcases key j p hj with ⟨_, rfl⟩ | ⟨_, hj⟩
    · exact h.has _ (List.mem_cons_self ..)
    · exact h.has _ (List.mem_cons_of_mem _ (List.mem_of_getElem? hj))
  · obtain ⟨j, hj⟩ := List.mem_iff_getElem?.1 hp
    rcases key j p hj with ⟨_, rfl⟩ | ⟨_, hj⟩
    · exact h.may _ (List.mem_cons_self ..)
    · exact h.may _ (List.mem_cons_of_mem _ (List.mem_of_getElem? hj))
  · rcases key j p hj with ⟨hji, rfl⟩ | ⟨hji, hj⟩
    · rcases key k q hk with ⟨hki, rfl⟩ | ⟨hki, hk⟩
      · rw [hji, hki]
      · exact (far k q hk e.symm).elim
    · rcases key k q hk with ⟨hki, rfl⟩ | ⟨hki, hk⟩
      · exact (far j p hj e).elim
      · have := h.apart (j + 1) (k + 1) p q (by simpa using hj) (by simpa using hk) e
        omega
end

theorem grownCap_le (w : World) (need old : Nat) (e : TypeId) : need ≤ grownCap w need old e := by
  unfold grownCap Question.cut
  exact Nat.le_add_right _ _
theorem grownCap_max (w : World) (need old : Nat) (e : TypeId) (h : need < 2 ^ 63) : grownCap w need old e < 2 ^ 63 := by
  unfold grownCap Question.cut
  have := Nat.mod_lt (w.tape w.drawn (.appendCap need old e)) (show 0 < 2 ^ 63 - need by omega)
  simp only
  omega
theorem zeroCells_size (z : Array Value) (n : Nat) : (Builtin.zeroCells z n).size = n * z.size := by simp [Builtin.zeroCells]

section
variable {P : Program} {ops : Array Oper} {Q : Exit → Act → World → Prop} {rest : List Oper} {a : Act} {w0 w : World} {own : List Nat} {L : List (Nat × Obj)}
  {dst : Option Tmp} {ty : TypeId} {pos : String} {aft : Array Edge} {gd : Option (Nat × Bool)} {K : Act → World → Prop}

/-- 'append' onto a slice that begins at the head of a block of ours. -/
theorem ow_append {T E : TypeId} {sz bytes : Nat} {z : Value} {x y : Operand} {g i n cap m c : Nat} {cur : Array Value} {ad : Addr} {news : List Value} (hm : Mem w0 own L w) (hel : El P T E sz bytes z) (hz : z.cells.size = sz)
    (hL : L[i]? = some (g, .cells cur E (0, 0))) (hx : a.eval x = .slice (some ⟨g, 0, none⟩) n cap) (hy : a.eval y = .slice (some ad) m c) (hcap : n ≤ cap) (hcur : cur.size = cap * sz)
    (hl : news.length = m * sz) (hnews : ∀ j u, news[j]? = some u → w.cell? (ad.add j) = some u) (h1 : ∀ u ∈ news, u.oneCell' = true) (hb : (n + m) * bytes ≤ 140737488355328) (hb' : n + m < 2 ^ 63)
    (h : ∀ g' cap' cur' w', Mem w0 own (L.set i (g', .cells cur' E (0, 0))) w' → n + m ≤ cap' → (cap < 2 ^ 63 → cap' < 2 ^ 63) → cur'.size = cap' * sz → (∀ j, j < n * sz → cur'[j]? = cur[j]?) → (∀ j, j < m * sz → cur'[n * sz + j]? = news[j]?) → (n + m ≤ cap → cap' = cap) →
      K (a.put dst (.slice (some ⟨g', 0, none⟩) (n + m) cap')) w') : Oper.wp P ⟨dst, .call ⟨.builtin .append, #[x, y], #[T, T]⟩, ty, pos, aft, gd⟩ a w K Q := by
  obtain ⟨ht, it, hi, rfl, rfl, hzz⟩ := hel
  have hcells : ∀ j v, (cur.toList.take (n * it.size))[j]? = some v → w.cell? ((⟨g, 0, none⟩ : Addr).add j) = some v := fun j v hv => by
    rw [Addr.add_mid, hm.cell hL]
    rw [List.getElem?_take] at hv
    split at hv
    · simpa using hv
    · cases hv
  have hle : n * it.size ≤ cap * it.size := Nat.mul_le_mul_right _ hcap
  by_cases hroom : n + m ≤ cap
  · have hfit : n * it.size + news.length ≤ cur.size := by rw [hl, hcur, ← Nat.add_mul]; exact Nat.mul_le_mul_right _ hroom
    have hr := run_append_room (P := P) w T ty E it ht hi g n cap cur (hm.heap hL) ad m c news hl hnews h1 hroom hfit
    unfold Oper.wp execOp
    simp only [resolve, invoke, builtin, Sem.run_bind, Sem.run_pure, Result.andThen_ok, List.map_toArray, List.map_cons, List.map_nil, hx, hy, hr]
    refine h g cap _ _ (hm.setRow hL _) hroom id ?_ ?_ ?_ (fun _ => rfl)
    · simp; rw [hl] at hfit ⊢; omega
    · intro j hj
      have : j < cur.toList.length := by simp; omega
      simp only [List.getElem?_toArray, List.append_assoc]
      rw [List.getElem?_append_left (by simp; omega), List.getElem?_take, if_pos hj]
      simp
    · intro j hj
      simp only [List.getElem?_toArray, List.append_assoc]
      have e : (cur.toList.take (n * it.size)).length = n * it.size := by simp; omega
      rw [List.getElem?_append_right (by omega), e, Nat.add_sub_cancel_left, List.getElem?_append_left (by omega)]
  · have hr := run_append_grow (P := P) w T ty E it z ht hi hzz ⟨g, 0, none⟩ n cap (cur.toList.take (n * it.size)) (by simp; omega) hcells ad m c news hl hnews (by omega) (by omega) (growslice_fits (by omega) hb)
    unfold Oper.wp execOp
    simp only [resolve, invoke, builtin, Sem.run_bind, Sem.run_pure, Result.andThen_ok, List.map_toArray, List.map_cons, List.map_nil, hx, hy, hr]
    have hge := grownCap_le w (n + m) cap E
    refine h _ _ _ _ ((hm.drew.alloc _).moved i) hge (fun _ => grownCap_max w _ _ _ hb') ?_ ?_ ?_ (fun h => absurd h hroom)
    · simp only [Array.size_append, List.size_toArray, zeroCells_size, hl, hz, List.length_take, Array.length_toList]
      rw [Nat.min_eq_left (by omega), ← Nat.add_mul, ← Nat.add_mul]
      congr 1
      omega
    · intro j hj
      have e : (cur.toList.take (n * it.size)).length = n * it.size := by simp; omega
      rw [Array.append_assoc, Array.getElem?_append_left (by simp; omega)]
      simp [List.getElem?_take, hj]
    · intro j hj
      have e : (cur.toList.take (n * it.size)).length = n * it.size := by simp; omega
      rw [Array.append_assoc, Array.getElem?_append_right (by simp; omega)]
      simp only [List.size_toArray, e, Nat.add_sub_cancel_left]
      rw [Array.getElem?_append_left (by simp; omega)]
      simp

/-- 'append' onto a nil slice. -/
theorem ow_append_nil {T E : TypeId} {sz bytes : Nat} {z : Value} {x y : Operand} {m c : Nat} {ad : Addr} {news : List Value} (hm : Mem w0 own L w) (hel : El P T E sz bytes z) (hz : z.cells.size = sz)
    (hx : a.eval x = .slice none 0 0) (hy : a.eval y = .slice (some ad) m c) (hm0 : 0 < m)
    (hl : news.length = m * sz) (hnews : ∀ j u, news[j]? = some u → w.cell? (ad.add j) = some u) (hb : m * bytes ≤ 140737488355328) (hb' : m < 2 ^ 63)
    (h : ∀ g' cap' cur' w', Mem w0 own ((g', .cells cur' E (0, 0)) :: L) w' → m ≤ cap' → cap' < 2 ^ 63 → cur'.size = cap' * sz → (∀ j, j < m * sz → cur'[j]? = news[j]?) →
      K (a.put dst (.slice (some ⟨g', 0, none⟩) m cap')) w') : Oper.wp P ⟨dst, .call ⟨.builtin .append, #[x, y], #[T, T]⟩, ty, pos, aft, gd⟩ a w K Q := by
  obtain ⟨ht, it, hi, rfl, rfl, hzz⟩ := hel
  have hr := run_append_nil (P := P) w T ty E it z ht hi hzz ad m c news hl hnews hm0 (by omega) (by omega)
  unfold Oper.wp execOp
  simp only [resolve, invoke, builtin, Sem.run_bind, Sem.run_pure, Result.andThen_ok, List.map_toArray, List.map_cons, List.map_nil, hx, hy, hr]
  have hge := grownCap_le w m 0 E
  refine h _ _ _ _ (hm.drew.alloc _) hge (grownCap_max w _ _ _ hb') ?_ ?_
  · simp only [Array.size_append, List.size_toArray, zeroCells_size, hl, hz]
    rw [← Nat.add_mul]
    congr 1
    omega
  · intro j hj
    rw [Array.getElem?_append_left (by simp; omega)]
    simp

theorem ow_make {T E : TypeId} {sz bytes : Nat} {z : Value} {x y : Operand} {kl kc : IntKind} {l c : Nat} (hm : Mem w0 own L w) (hel : El P T E sz bytes z) (hx : a.eval x = .int kl (l : Int)) (hy : a.eval y = .int kc (c : Int)) (hlc : l ≤ c) (hb : bytes * c ≤ 281474976710656) (hb' : c < 2 ^ 63)
    (h : ∀ g w', Mem w0 own ((g, .cells (madeCells z.cells (c * sz)) E (0, 0)) :: L) w' → K (a.put dst (.slice (some ⟨g, 0, none⟩) l c)) w') : Oper.wp P ⟨dst, .makeSlice T x y, ty, pos, aft, gd⟩ a w K Q := by
  obtain ⟨ht, it, hi, rfl, rfl, hzz⟩ := hel
  have hr := run_make (P := P) w T E it z ht hi hzz kl kc l c (by omega) (by omega) (by have : ((it.bytes * c : Nat) : Int) ≤ 281474976710656 := (by omega); rwa [Int.natCast_mul] at this) (by omega)
  unfold Oper.wp execOp
  simp only [hx, hy, Sem.run_bind, Sem.run_pure, Result.andThen_ok, hr, Int.toNat_natCast]
  exact h _ _ (hm.alloc _)

theorem made_one (z : Value) (n : Nat) : madeCells #[z] n = rowOf n fun _ => z := by
  apply Array.ext_getElem?
  intro i
  by_cases hi : i < n
  · rw [rowOf_get _ _ _ hi]; simp [madeCells, hi, Nat.mod_one]
  · rw [Array.getElem?_eq_none (by simp [madeCells]; omega), Array.getElem?_eq_none (by rw [rowOf_size]; omega)]

theorem ow_buildSlice {T E : TypeId} {sz bytes : Nat} {z : Value} {len : Nat} {parts : Array (Nat × Operand)} {ps : List (Nat × Value)} {cells : Array Value} (hm : Mem w0 own L w) (hel : El P T E sz bytes z) (h0 : len * sz ≠ 0) (hb : len * sz ≤ 16777216)
    (hp : (parts.map fun (i, x) => (i, a.eval x)).toList = ps) (hc : Instr.fill (fun i => some (i * sz, sz)) ((Array.range (len * sz)).map fun i => z.cells[i % z.cells.size]!) ps = some cells)
    (h : ∀ g w', Mem w0 own ((g, .cells cells E (0, 0)) :: L) w' → K (a.put dst (.slice (some ⟨g, 0, none⟩) len len)) w') : Oper.wp P ⟨dst, .buildSlice T len parts, ty, pos, aft, gd⟩ a w K Q := by
  obtain ⟨ht, it, hi, rfl, rfl, hzz⟩ := hel
  have hr : ∀ pp : Array (Nat × Value), pp.toList = ps → (Instr.buildSlice T len pp).run P w = .ok (.slice (some ⟨w.heap.size, 0, none⟩) len len) (w.alloc (.cells cells E)) := fun pp hpp => by
    have hn : ¬ (16777216 < len * it.size) := by omega
    simp [Instr.buildSlice, run_underlying ht, sizeOf, typeInfo, hi, zeroValue, hzz, newRow, hn, h0, hpp, hc]
  unfold Oper.wp execOp
  simp only [Sem.run_bind, Sem.run_pure, Result.andThen_ok, hr _ hp]
  exact h _ _ (hm.alloc _)

theorem fill_one (z v : Value) (h : v.cells = #[v]) : Instr.fill (fun i => some (i * 1, 1)) ((Array.range (1 * 1)).map fun i => z.cells[i % z.cells.size]!) [(0, v)] = some #[v] := by
  simp [Instr.fill, h, show Array.range 1 = #[0] from rfl]
theorem fill_two (z u v : Value) (hu : u.cells = #[u]) (hv : v.cells = #[v]) : Instr.fill (fun i => some (i * 1, 1)) ((Array.range (2 * 1)).map fun i => z.cells[i % z.cells.size]!) [(0, u), (1, v)] = some #[u, v] := by
  simp [Instr.fill, hu, hv, show Array.range 2 = #[0, 1] from rfl]

theorem news_of {g i : Nat} {cs : Array Value} {U : TypeId} {fr : Nat × Nat} (hm : Mem w0 own L w) (hL : L[i]? = some (g, .cells cs U fr)) : ∀ j u, cs.toList[j]? = some u → w.cell? ((⟨g, 0, none⟩ : Addr).add j) = some u := fun j u hj => by
  rw [Addr.add_mid, hm.cell hL]
  simpa using hj

/-- n bytes, told by a function of the place. -/
@[irreducible] def bytesB (n : Nat) (f : Nat → Nat) : ByteArray := ⟨((List.range n).map fun j => UInt8.ofNat (f j)).toArray⟩
theorem bytesB_size (n : Nat) (f : Nat → Nat) : (bytesB n f).size = n := by unfold bytesB; simp [ByteArray.size]
theorem bytesB_toList (n : Nat) (f : Nat → Nat) : (bytesB n f).data.toList = (List.range n).map fun j => UInt8.ofNat (f j) := by unfold bytesB; simp

theorem foldl_push (l : List Int) : ∀ (s : ByteArray), l.foldl (fun r n => r.push (UInt8.ofNat n.toNat)) s = ⟨(s.data.toList ++ l.map fun n => UInt8.ofNat n.toNat).toArray⟩ := by
  induction l with
  | nil => intro s; simp
  | cons n l ih => intro s; rw [List.foldl_cons, ih]; simp

theorem run_toString {S D E : TypeId} (hs : P.underlying S = some (.slice E)) (he : P.underlying E = some (.int .u8)) (hd : P.underlying D = some .string) (hm : Mem w0 own L w) {i g off n cap : Nat} {cur : Array Value} {U : TypeId} {fr : Nat × Nat} (hL : L[i]? = some (g, .cells cur U fr))
    (f : Nat → Nat) (hc : ∀ j, j < n → cur[off + j]? = some (.int .u8 ((f j : Nat) : Int))) : (convert S D (.slice (some ⟨g, off, none⟩) n cap)).run P w = .ok (.string (bytesB n f)) w := by
  have hl : (loadCells ⟨g, off, none⟩ ((List.range n).map fun j => Value.int .u8 ((f j : Nat) : Int)).length).run P w = .ok ((List.range n).map fun j => Value.int .u8 ((f j : Nat) : Int)).toArray w :=
    run_loadCells_list (P := P) w ⟨g, off, none⟩ _ (fun j v hv => by
      rw [Addr.add_mid, hm.cell hL]
      rw [List.getElem?_map] at hv
      by_cases hj : j < n
      · rw [hc j hj]
        simpa [hj] using hv
      · simp [List.getElem?_eq_none (show (List.range n).length ≤ j by simp; omega)] at hv)
  rw [run_convert_bytes_string w S D E _ _ _ hs he hd, run_bytesToString w ⟨g, off, none⟩ n cap ((List.range n).map fun j => ((f j : Nat) : Int)) (by simpa [List.map_map, Function.comp_def] using hl), foldl_push]
  unfold bytesB
  simp [List.map_map, Function.comp_def]
end
end Go.Proofs.Ythcpdjlomdchdaa
