/-
  The symbolic heap, continued: a region that reads a row, and appends to it at last.
-/
import Derived.Test.YthcpdjlomdchdaaMem7
namespace Go.Proofs.Ythcpdjlomdchdaa
open Go.RowKit
set_option linter.unusedSimpArgs false
set_option linter.unusedVariables false

/-- The first n cells of block g read as F says; L tells other blocks. -/
def KeepS (w0 : World) (own : List Nat) (L : List (Nat × Obj)) (g n : Nat) (F : Nat → Value) (w : World) : Prop := Mem w0 own L w ∧ ∀ j, j < n → w.cell? ⟨g, j, none⟩ = some (F j)
section
variable {P : Program} {ops : Array Oper} {Q : Exit → Act → World → Prop} {rest : List Oper} {a : Act} {w0 w w' : World} {own : List Nat} {L : List (Nat × Obj)}
  {dst : Option Tmp} {ty : TypeId} {pos : String} {aft : Array Edge} {gd : Option (Nat × Bool)} {K : Act → World → Prop} {g n : Nat} {F : Nat → Value}
theorem cell_ext (hx : Ext w w') {b j : Nat} {v : Value} (h : w.cell? ⟨b, j, none⟩ = some v) : w'.cell? ⟨b, j, none⟩ = some v := by
  have hb : b < w.heap.size := by
    rcases Nat.lt_or_ge b w.heap.size with h' | h'
    · exact h'
    · simp [World.cell?, Array.getElem?_eq_none h'] at h
  have he := hx.old b hb (by simp)
  simp only [World.cell?] at h ⊢
  rw [he]; exact h
theorem KeepS.call (h : KeepS w0 own L g n F w) (hx : Ext w w') : KeepS w0 own L g n F w' := ⟨h.1.call hx, fun j hj => cell_ext hx (h.2 j hj)⟩
theorem Mem.keep {cur : Array Value} {E : TypeId} {fr : Nat × Nat} (h : Mem w0 own ((g, .cells cur E fr) :: L) w) (hc : ∀ j, j < n → cur[j]? = some (F j)) : KeepS w0 own L g n F w :=
  ⟨h.tail, fun j hj => by rw [h.cell (i := 0) rfl, hc j hj]⟩
theorem ld_keep {T : TypeId} {x : Operand} {off : Nat} {d : TypeDesc} (hx : a.eval x = .pointer (some ⟨g, off, none⟩)) (ho : off < n)
    (hu : P.underlying T = some d) (hd : (match d with | .struct _ | .array _ _ => true | _ => false) = false) :
    ∀ w, KeepS w0 own L g n F w → (execOp a.eval ⟨dst, .load T x, ty, pos, aft, gd⟩).run P w = .ok (.value (F off)) w := fun w hC => by
  have hagg : (isAgg T).run P w = .ok false w := by
    unfold isAgg
    rw [Sem.run_bind, run_underlying hu w]
    cases d <;> simp_all
  have hcell := hC.2 off ho
  unfold execOp
  simp [hx, Instr.loadAt, Instr.sureAddr, Sem.run_bind, loadVar, hagg, hcell]

/-- 'append' onto a slice that begins at the head of a block of ours: the old block's first cells stand. -/
theorem ow_append_keep {T E : TypeId} {sz bytes : Nat} {z : Value} {x y : Operand} {g i n cap m c : Nat} {cur : Array Value} {ad : Addr} {news : List Value} (hm : Mem w0 own L w) (hel : El P T E sz bytes z) (hz : z.cells.size = sz)
    (hL : L[i]? = some (g, .cells cur E (0, 0))) (hx : a.eval x = .slice (some ⟨g, 0, none⟩) n cap) (hy : a.eval y = .slice (some ad) m c) (hcap : n ≤ cap) (hcur : cur.size = cap * sz)
    (hl : news.length = m * sz) (hnews : ∀ j u, news[j]? = some u → w.cell? (ad.add j) = some u) (h1 : ∀ u ∈ news, u.oneCell' = true) (hb : (n + m) * bytes ≤ 140737488355328) (hb' : n + m < 2 ^ 63)
    (h : ∀ g' cap' cur' w', Mem w0 own (L.set i (g', .cells cur' E (0, 0))) w' → n + m ≤ cap' → (cap < 2 ^ 63 → cap' < 2 ^ 63) → cur'.size = cap' * sz → (∀ j, j < n * sz → cur'[j]? = cur[j]?) → (∀ j, j < m * sz → cur'[n * sz + j]? = news[j]?) →
      (∀ j v, j < n * sz → cur[j]? = some v → w'.cell? ⟨g, j, none⟩ = some v) →
      K (a.put dst (.slice (some ⟨g', 0, none⟩) (n + m) cap')) w') : Oper.wp P ⟨dst, .call ⟨.builtin .append, #[x, y], #[T, T]⟩, ty, pos, aft, gd⟩ a w K Q := by
  obtain ⟨ht, it, hi, rfl, rfl, hzz⟩ := hel
  have hcells : ∀ j v, (cur.toList.take (n * it.size))[j]? = some v → w.cell? ((⟨g, 0, none⟩ : Addr).add j) = some v := fun j v hv => by
    rw [Addr.add_mid, hm.cell hL]
    rw [List.getElem?_take] at hv
    split at hv
    · simpa using hv
    · cases hv
  have hle : n * it.size ≤ cap * it.size := Nat.mul_le_mul_right _ hcap
  by_cases hroom : n + m ≤ cap
  · have hfit : n * it.size + news.length ≤ cur.size := by rw [hl, hcur, ← Nat.add_mul]; exact Nat.mul_le_mul_right _ hroom
    have hr := run_append_room (P := P) w T ty E it ht hi g n cap cur (hm.heap hL) ad m c news hl hnews h1 hroom hfit
    have hrow := hm.setRow hL (cur.toList.take (n * it.size) ++ news ++ cur.toList.drop (n * it.size + news.length)).toArray
    have hfirst : ∀ j, j < n * it.size → ((cur.toList.take (n * it.size) ++ news ++ cur.toList.drop (n * it.size + news.length)).toArray)[j]? = cur[j]? := fun j hj => by
      have : j < cur.toList.length := by simp; omega
      simp only [List.getElem?_toArray, List.append_assoc]
      rw [List.getElem?_append_left (by simp; omega), List.getElem?_take, if_pos hj]
      simp
    unfold Oper.wp execOp
    simp only [resolve, invoke, builtin, Sem.run_bind, Sem.run_pure, Result.andThen_ok, List.map_toArray, List.map_cons, List.map_nil, hx, hy, hr]
    refine h g cap _ _ hrow hroom id ?_ hfirst ?_ ?_
    · simp; rw [hl] at hfit ⊢; omega
    · intro j hj
      simp only [List.getElem?_toArray, List.append_assoc]
      have e : (cur.toList.take (n * it.size)).length = n * it.size := by simp; omega
      rw [List.getElem?_append_right (by omega), e, Nat.add_sub_cancel_left, List.getElem?_append_left (by omega)]
    · intro j v hj hv
      have hi' : i < L.length := (List.getElem?_eq_some_iff.1 hL).1
      rw [hrow.cell (i := i) (List.getElem?_set_self hi'), hfirst j hj, hv]
  · have hr := run_append_grow (P := P) w T ty E it z ht hi hzz ⟨g, 0, none⟩ n cap (cur.toList.take (n * it.size)) (by simp; omega) hcells ad m c news hl hnews (by omega) (by omega) (growslice_fits (by omega) hb)
    unfold Oper.wp execOp
    simp only [resolve, invoke, builtin, Sem.run_bind, Sem.run_pure, Result.andThen_ok, List.map_toArray, List.map_cons, List.map_nil, hx, hy, hr]
    have hge := grownCap_le w (n + m) cap E
    have hall := hm.drew.alloc (.cells ((cur.toList.take (n * it.size)).toArray ++ news.toArray ++ Builtin.zeroCells z.cells (grownCap w (n + m) cap E - (n + m))) E)
    refine h _ _ _ _ (hall.moved i) hge (fun _ => grownCap_max w _ _ _ hb') ?_ ?_ ?_ ?_
    · simp only [Array.size_append, List.size_toArray, zeroCells_size, hl, hz, List.length_take, Array.length_toList]
      rw [Nat.min_eq_left (by omega), ← Nat.add_mul, ← Nat.add_mul]
      congr 1
      omega
    · intro j hj
      have e : (cur.toList.take (n * it.size)).length = n * it.size := by simp; omega
      rw [Array.append_assoc, Array.getElem?_append_left (by simp; omega)]
      simp [List.getElem?_take, hj]
    · intro j hj
      have e : (cur.toList.take (n * it.size)).length = n * it.size := by simp; omega
      rw [Array.append_assoc, Array.getElem?_append_right (by simp; omega)]
      simp only [List.size_toArray, e, Nat.add_sub_cancel_left]
      rw [Array.getElem?_append_left (by simp; omega)]
      simp
    · intro j v hj hv
      rw [hall.cell (i := i + 1) (by simpa using hL), hv]
end
end Go.Proofs.Ythcpdjlomdchdaa
