/-
  How a script that came in is read; a load of a row out of what was there.
-/
import Derived.Test.YthcpdjlomdchdaaTimO
import Derived.Test.YthcpdjlomdchdaaTimV
import Derived.Deep.Slices
namespace Go.Proofs.Ythcpdjlomdchdaa
open Go.ChangeShapes Go.WideShapes Go.ChangeAt Go.RowKit
set_option linter.unusedVariables false
set_option maxRecDepth 20000

theorem undIntW : Try.prog.underlying 3 = some (.int .i64) := by kernel_rfl
noncomputable def stepFields : Array Field := match Try.prog.underlying 30 with | some (.struct fs) => fs | _ => #[]
theorem undStep : Try.prog.underlying 30 = some (.struct stepFields) := by kernel_rfl
theorem sizeStep : (Try.prog.info? 30).map (·.size) = some 3 := by kernel_rfl
theorem zeroStep : (Try.prog.info? 30).bind (·.zero) = some (.agg #[.int .i64 0, .int .i64 0, .int .i64 0]) := by kernel_rfl
def nofield : Field := default
noncomputable def sf (i : Nat) : Field := stepFields.getD i nofield
theorem undStep3 : Try.prog.underlying 30 = some (.struct #[sf 0, sf 1, sf 2]) := by kernel_rfl
theorem sf_int (i : Nat) (hi : i < 3) : (sf i).type = 3 ∧ (sf i).offset = i ∧ Try.prog.cellsOf (sf i).type = 1 := by
  match i, hi with
  | 0, _ => exact ⟨by kernel_rfl, by kernel_rfl, by kernel_rfl⟩
  | 1, _ => exact ⟨by kernel_rfl, by kernel_rfl, by kernel_rfl⟩
  | 2, _ => exact ⟨by kernel_rfl, by kernel_rfl, by kernel_rfl⟩
section
variable {P : Program} {ops : Array Oper} {Q : Exit → Act → World → Prop} {rest : List Oper} {a : Act} {w : World} {dst : Option Tmp} {ty : TypeId} {pos : String} {aft : Array Edge} {gd : Option (Nat × Bool)}
theorem ld_oldRow {T : TypeId} {x : Operand} {ad : Addr} {cs : Array Value} {d : TypeDesc} (hx : a.eval x = .pointer (some ad)) (hcell : ∀ j v, cs.toList[j]? = some v → w.cell? (ad.add j) = some v)
    (hu : P.underlying T = some d) (hd : d.isRow = true) (hi : (P.info? T).map (·.size) = some cs.size) : (execOp a.eval ⟨dst, .load T x, ty, pos, aft, gd⟩).run P w = .ok (.value (.agg cs)) w := by
  have hl : (loadCells ad cs.toList.length).run P w = .ok cs.toList.toArray w := run_loadCells_list (P := P) w ad cs.toList hcell
  rw [Array.length_toList, Array.toArray_toList] at hl
  cases hq : P.info? T with
  | none => simp [hq] at hi
  | some i =>
    have hs : i.size = cs.size := by simpa [hq] using hi
    have hagg : (isAgg T).run P w = .ok true w := by
      unfold isAgg
      rw [Sem.run_bind, run_underlying hu w]
      cases d <;> simp_all
    unfold execOp
    simp [hx, Instr.loadAt, Instr.sureAddr, Sem.run_bind, loadVar, hagg, sizeOf, typeInfo, hq, hs, hl]
theorem wl_loadOldRow {T : TypeId} {x : Operand} {ad : Addr} {cs : Array Value} {d : TypeDesc} (hw : Region.wanted ⟨dst, .load T x, ty, pos, aft, gd⟩ (yielded ops a.tmps) = true) (hx : a.eval x = .pointer (some ad)) (hcell : ∀ j v, cs.toList[j]? = some v → w.cell? (ad.add j) = some v)
    (hu : P.underlying T = some d) (hd : d.isRow = true) (hi : (P.info? T).map (·.size) = some cs.size) (h : wpList P ops Q rest (a.put dst (.agg cs)) w) : wpList P ops Q (⟨dst, .load T x, ty, pos, aft, gd⟩ :: rest) a w :=
  wl_op hw fun K hK => ow_value (ld_oldRow hx hcell hu hd hi) (hK _ _ h)
end
abbrev Stp := Int × Int × Int
def stepL (s : Stp) : List Value := [.int .i64 s.1, .int .i64 s.2.1, .int .i64 s.2.2]
/-- The n steps of a slice, in the world W. -/
def StepsV (W : World) (c : Option Addr) (n : Nat) (s : Nat → Stp) : Prop := ∀ i, i < n → ∃ a : Addr, c = some a ∧ ∀ j v, (stepL (s i))[j]? = some v → W.cell? ((a.add (i * 3)).add j) = some v
theorem open_steps {H : Type} {enc : TypeId × Value → H} {W : World} {c : Option Addr} {n cap : Nat} {d : DataW H} {p : List MemPlace}
    (h : DataW.Trod enc Try.prog W 0 (fun _ => true) true 22 (.slice c n cap) d p) : ∃ s : Nat → Stp, StepsV W c n s := by
  obtain ⟨fuel, hf⟩ := h
  have ce : Try.prog.cellsOf 30 = 3 := by kernel_rfl
  rcases Go.Deep.open_slice (t := 22) (e := 30) (by kernel_rfl) hf with ⟨hcs, hx⟩ | ⟨a, len', cap', m, k, D, Pl, hcs, _, hl, hm, hz, hx, hcell⟩
  · have hcs' : [Value.slice c n cap] = [.slice none 0 0] := hcs
    simp at hcs'
    obtain ⟨rfl, rfl, rfl⟩ := hcs'
    exact ⟨fun _ => (0, 0, 0), fun i hi => by omega⟩
  · have hcs' : [Value.slice c n cap] = [.slice (some a) len' cap'] := hcs
    simp at hcs'
    obtain ⟨rfl, rfl, rfl⟩ := hcs'
    simp only [if_true] at hz
    have each : ∀ i, i < n → ∃ s : Stp, ∀ j v, (stepL s)[j]? = some v → W.cell? ((a.add (i * 3)).add j) = some v := by
      intro i hi
      obtain ⟨cs', h1, h2⟩ := hcell i (by omega)
      rw [ce] at h1
      obtain ⟨_, hlen, hc⟩ := World.cells?_some h1
      obtain ⟨xs, k', hk, hxy, _, hxl, hfd⟩ := DataW.trod_struct undStep3 h2
      match cs', hlen with
      | [v0, v1, v2], _ =>
        have g := fun (q : Nat) (hq : q < 3) => hfd q (sf q) (by match q, hq with | 0, _ => rfl | 1, _ => rfl | 2, _ => rfl)
        have int : ∀ (q : Nat) (hq : q < 3) (v : Value), [v0, v1, v2][q]? = some v → ∃ z : Int, v = .int .i64 z := fun q hq v hv => by
          have g1 := g q hq
          obtain ⟨t1, t2, t3⟩ := sf_int q hq
          rw [t2, t3, t1] at g1
          have e : List.take 1 (List.drop q [v0, v1, v2]) = [v] := by
            match q, hq, hv with
            | 0, _, hv => simpa using hv
            | 1, _, hv => simpa using hv
            | 2, _, hv => simpa using hv
          rw [e] at g1
          have hq' : q < xs.length := by rw [hxl]; exact hq
          rw [List.getElem?_eq_getElem hq'] at g1
          obtain ⟨z, e0, _⟩ := DataW.trod_int undIntW g1
          simp only [List.cons.injEq, and_true] at e0
          exact ⟨z, e0⟩
        obtain ⟨z0, rfl⟩ := int 0 (by omega) v0 rfl
        obtain ⟨z1, rfl⟩ := int 1 (by omega) v1 rfl
        obtain ⟨z2, rfl⟩ := int 2 (by omega) v2 rfl
        refine ⟨(z0, z1, z2), fun j v hj => ?_⟩
        have hj3 : j < 3 := by
          have := (List.getElem?_eq_some_iff.1 hj).1
          simpa [stepL] using this
        rw [hc j hj3]
        exact hj
    obtain ⟨s, hs⟩ := Go.Deep.choose_lt each
    exact ⟨s, fun i hi => ⟨a, rfl, hs i hi⟩⟩
end Go.Proofs.Ythcpdjlomdchdaa
