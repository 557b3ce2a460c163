/-
  The symbolic heap, continued: a held region in which two or three operations are free at once.
-/
import Derived.Test.YthcpdjlomdchdaaMem9
namespace Go.Proofs.Ythcpdjlomdchdaa
open Go.RowKit
set_option linter.unusedSimpArgs false
set_option linter.unusedVariables false
section
variable {P : Program} {md : Region.Mode} {ops : Array Oper} {Q : Exit → Act → World → Prop} {S : World → Prop} {fuel : Nat} {listed : Array Bool} {a : Act} {w0 w : World} {own : List Nat} {L : List (Nat × Obj)}
  {dst : Option Tmp} {ty : TypeId} {pos : String} {aft : Array Edge} {gd : Option (Nat × Bool)} {K : Act → World → Prop} {i j k : Nat} {oi oj ok : Oper}
theorem wh_ready2 (hr : Region.ready md ops listed = [i, j]) (hi : ops[i]? = some oi) (hj : ops[j]? = some oj) (wi : Region.wanted oi (yielded ops a.tmps) = true) (wj : Region.wanted oj (yielded ops a.tmps) = true)
    (h1 : ∀ K' : Act → World → Prop, Hid (∀ a w, S w → wpAnyH P md ops Q S fuel (listed.setIfInBounds i true) a w → K' a w) → Oper.wp P oi a w K' Q)
    (h2 : ∀ K' : Act → World → Prop, Hid (∀ a w, S w → wpAnyH P md ops Q S fuel (listed.setIfInBounds j true) a w → K' a w) → Oper.wp P oj a w K' Q) : wpAnyH P md ops Q S (fuel + 1) listed a w :=
  wpAnyH_all hr (by simp) fun m hm => by
    unfold wpOp
    rcases (by simpa using hm : m = i ∨ m = j) with rfl | rfl
    · simp only [hi, wi, if_true]; exact .inl (h1 _ fun _ _ h1 h2 => ⟨h1, h2⟩)
    · simp only [hj, wj, if_true]; exact .inl (h2 _ fun _ _ h1 h2 => ⟨h1, h2⟩)
theorem wh_ready3 (hr : Region.ready md ops listed = [i, j, k]) (hi : ops[i]? = some oi) (hj : ops[j]? = some oj) (hk : ops[k]? = some ok) (wi : Region.wanted oi (yielded ops a.tmps) = true) (wj : Region.wanted oj (yielded ops a.tmps) = true)
    (wk : Region.wanted ok (yielded ops a.tmps) = true)
    (h1 : ∀ K' : Act → World → Prop, Hid (∀ a w, S w → wpAnyH P md ops Q S fuel (listed.setIfInBounds i true) a w → K' a w) → Oper.wp P oi a w K' Q)
    (h2 : ∀ K' : Act → World → Prop, Hid (∀ a w, S w → wpAnyH P md ops Q S fuel (listed.setIfInBounds j true) a w → K' a w) → Oper.wp P oj a w K' Q)
    (h3 : ∀ K' : Act → World → Prop, Hid (∀ a w, S w → wpAnyH P md ops Q S fuel (listed.setIfInBounds k true) a w → K' a w) → Oper.wp P ok a w K' Q) : wpAnyH P md ops Q S (fuel + 1) listed a w :=
  wpAnyH_all hr (by simp) fun m hm => by
    unfold wpOp
    rcases (by simpa using hm : m = i ∨ m = j ∨ m = k) with rfl | rfl | rfl
    · simp only [hi, wi, if_true]; exact .inl (h1 _ fun _ _ h1 h2 => ⟨h1, h2⟩)
    · simp only [hj, wj, if_true]; exact .inl (h2 _ fun _ _ h1 h2 => ⟨h1, h2⟩)
    · simp only [hk, wk, if_true]; exact .inl (h3 _ fun _ _ h1 h2 => ⟨h1, h2⟩)
theorem ow_alloc {T : TypeId} {z : Value} {cs : Array Value} (hz : (P.info? T).bind (·.zero) = some z) (hc : z.cells = cs) (hm : Mem w0 own L w)
    (h : ∀ b w', Mem w0 own ((b, .cells cs T) :: L) w' → K (a.put dst (.pointer (some ⟨b, 0, none⟩))) w') : Oper.wp P ⟨dst, .alloc T, ty, pos, aft, gd⟩ a w K Q := by
  unfold Oper.wp execOp
  simp only [Instr.alloc, Sem.run_bind, zero_run hz, Result.andThen_ok, newVar, newRow, hc, run_newObj_alloc, Sem.run_pure, Oper.upon]
  exact h _ _ (hm.alloc _)
theorem Mem.swap {p q : Nat × Obj} (h : Mem w0 own (p :: q :: L) w) : Mem w0 own (q :: p :: L) w := by
  have hall : ∀ x, x ∈ q :: p :: L → x ∈ p :: q :: L := fun x hx => by
    simp only [List.mem_cons] at hx ⊢
    rcases hx with h | h | h
    · exact .inr (.inl h)
    · exact .inl h
    · exact .inr (.inr h)
  refine ⟨h.os, h.tape, h.output, h.size, h.old, fun x hx => h.has x (hall x hx), fun x hx => h.may x (hall x hx), ?_⟩
  intro i j x y hx hy hxy
  match i, j, hx, hy with
  | 0, 0, _, _ => rfl
  | 0, 1, hx, hy => exact absurd (h.apart 1 0 x y hx hy hxy) (by decide)
  | 1, 0, hx, hy => exact absurd (h.apart 0 1 x y hx hy hxy) (by decide)
  | 1, 1, _, _ => rfl
  | 0, n + 2, hx, hy => exact absurd (h.apart 1 (n + 2) x y hx hy hxy) (by omega)
  | 1, n + 2, hx, hy => exact absurd (h.apart 0 (n + 2) x y hx hy hxy) (by omega)
  | n + 2, 0, hx, hy => exact absurd (h.apart (n + 2) 1 x y hx hy hxy) (by omega)
  | n + 2, 1, hx, hy => exact absurd (h.apart (n + 2) 0 x y hx hy hxy) (by omega)
  | n + 2, m + 2, hx, hy => exact h.apart (n + 2) (m + 2) x y hx hy hxy
end
end Go.Proofs.Ythcpdjlomdchdaa
