/-
  How a place that came in is read (seats without chapter 1's functions).
-/
import Derived.Test.YtijkmbebfodhdaaOpen
import Derived.Test.YtijkmbebfodhdaaShaI
namespace Go.Proofs.Ytijkmbebfodhdaa
open Go.ChangeShapes Go.WideShapes Go.ChangeAt Go.RowKit
set_option linter.unusedVariables false
set_option maxRecDepth 20000

def numOf (f : Nat → Nat) : Nat → Nat
  | 0 => 0
  | k + 1 => 256 * numOf f k + f k

theorem numOf_dig (f : Nat → Nat) (hf : ∀ i, f i < 256) : ∀ k i, i < k → numOf f k / 256 ^ (k - 1 - i) % 256 = f i
  | 0, i, h => by omega
  | k + 1, i, h => by
    have h0 := hf k
    rw [numOf]
    by_cases hi : i = k
    · subst hi
      rw [show i + 1 - 1 - i = 0 from by omega, Nat.pow_zero, Nat.div_one]
      omega
    · have ih := numOf_dig f hf k i (by omega)
      rw [show k + 1 - 1 - i = (k - 1 - i) + 1 from by omega, Nat.pow_succ, Nat.mul_comm (256 ^ _) 256, ← Nat.div_div_eq_div_mul, show (256 * numOf f k + f k) / 256 = numOf f k from by omega]
      exact ih

theorem open_id {H : Type} {enc : TypeId × Value → H} {W : World} {base : Nat} {s : Nat → Bool} {held : Bool} {v : Value} {d : DataW H} {p : List MemPlace}
    (hv : Value.okWide Try.prog W .any base 24 v) (h : DataW.Trod enc Try.prog W 0 s held 24 v d p) : ∃ a, v = idV a := by
  unfold Value.okWide at hv
  rw [undID] at hv
  obtain ⟨cs, rfl, hcs, _⟩ := hv
  obtain ⟨fuel, hf⟩ := h
  obtain ⟨xs, m, rfl, _, hl, hxl, hx⟩ := DataW.trod_array undID hf
  have hc1 : Try.prog.cellsOf 5 = 1 := by kernel_rfl
  have hc20 : Try.prog.cellsOf 24 = 20 := by kernel_rfl
  rw [hc20] at hcs
  have each : ∀ i, i < 20 → ∃ n : Nat, n < 256 ∧ cs[i]? = some (.int .u8 (n : Int)) := fun i hi => by
    have h1 := hx i hi
    rw [hc1, Nat.mul_one] at h1
    have hsome : xs[i]? = some (xs[i]'(by omega)) := List.getElem?_eq_getElem _
    rw [hsome] at h1
    obtain ⟨n, e0, _, wn⟩ := DataW.trod_int undByteI h1
    have hw := bounds_u8 wn
    refine ⟨n.toNat, by omega, ?_⟩
    have e1 : (cs.toList.drop i).head? = some (.int .u8 n) := by
      have : ((Value.agg cs).cells.toList.drop i).take 1 = [.int .u8 n] := e0
      have hcells : (Value.agg cs).cells = cs := rfl
      rw [hcells] at this
      cases hd : cs.toList.drop i with
      | nil => rw [hd] at this; simp at this
      | cons x r => rw [hd] at this; simp at this; simp [this]
    rw [List.head?_drop] at e1
    rw [show ((n.toNat : Nat) : Int) = n from by omega]
    simpa using e1
  have hex : ∃ f : Nat → Nat, (∀ i, f i < 256) ∧ ∀ i, i < 20 → cs[i]? = some (.int .u8 ((f i : Nat) : Int)) := by
    refine ⟨fun i => match cs[i]? with | some (.int _ n) => if i < 20 then n.toNat else 0 | _ => 0, fun i => ?_, fun i hi => ?_⟩
    · by_cases hi : i < 20
      · obtain ⟨n, hn, he⟩ := each i hi
        simp [he, hi, hn]
      · have : cs[i]? = none := Array.getElem?_eq_none (by omega)
        simp [this]
    · obtain ⟨n, hn, he⟩ := each i hi
      simp [he, hi]
  obtain ⟨f, hf1, hf2⟩ := hex
  refine ⟨numOf f 20, ?_⟩
  rw [idV_eq]
  congr 1
  apply Array.ext_getElem?
  intro i
  by_cases hi : i < 20
  · rw [hf2 i hi, idC, rowOf_get _ _ i hi]
    have := numOf_dig f hf1 20 i hi
    unfold dig
    rw [show 19 - i = 20 - 1 - i from by omega, this]
  · rw [Array.getElem?_eq_none (by omega), Array.getElem?_eq_none (by rw [idC_size]; omega)]
end Go.Proofs.Ytijkmbebfodhdaa
