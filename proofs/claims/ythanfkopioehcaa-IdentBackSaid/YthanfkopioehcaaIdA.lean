/-
  Contracts of the functions on places.
-/
import Derived.Test.YthanfkopioehcaaChecked
import Derived.Test.YthanfkopioehcaaMem
namespace Go.Proofs.Ythanfkopioehcaa
open Go.RowKit
set_option linter.unusedSimpArgs false
set_option linter.unusedVariables false
set_option maxHeartbeats 400000
set_option maxRecDepth 20000
attribute [local irreducible] wpQuiet wpList wpAnyH Calls

/-- Digit i (the highest is 0) of a number to the base 256, of twenty digits. -/
def dig (a i : Nat) : Nat := a / 256 ^ (19 - i) % 256
def idC (a : Nat) : Array Value := rowOf 20 fun i => .int .u8 ((dig a i : Nat) : Int)
@[irreducible] def idV (a : Nat) : Value := .agg (idC a)
theorem idV_eq (a : Nat) : idV a = .agg (idC a) := by unfold idV; rfl
theorem idC_size (a : Nat) : (idC a).size = 20 := rowOf_size _ _
theorem idC_one (a : Nat) : (idC a).all (·.oneCell') = true := rowOf_one _ _ fun _ _ => rfl
theorem idV_cells (a : Nat) : (idV a).cells = idC a := by rw [idV_eq]; rfl

theorem zeroID : (Try.prog.info? 23).bind (·.zero) = some (.agg (rowOf 20 fun _ => Value.int .u8 0)) := by
  unfold rowOf; kernel_rfl
theorem sizeID : (Try.prog.info? 23).map (·.size) = some 20 := by kernel_rfl
theorem sizeByte : (Try.prog.info? 5).map (·.size) = some 1 := by kernel_rfl
theorem undID : Try.prog.underlying 23 = some (.array 20 5) := by kernel_rfl
theorem undByte : Try.prog.underlying 5 = some (.int .u8) := by kernel_rfl

theorem dig_small (n : Nat) (h : n < 65536) (j : Nat) (hj : j < 20) : dig n j = if j = 18 then n / 256 else if j = 19 then n % 256 else 0 := by
  unfold dig
  by_cases h18 : j = 18
  · subst h18; simp; omega
  by_cases h19 : j = 19
  · subst h19; simp
  rw [if_neg h18, if_neg h19]
  have : 256 ^ 2 ≤ 256 ^ (19 - j) := Nat.pow_le_pow_right (by omega) (by omega)
  rw [Nat.div_eq_of_lt (by omega)]

theorem small_c (n : Int) (h0 : 0 ≤ n) (h1 : n < 65536) (w : World) :
    Calls Try.prog 26 #[.int .i64 n] w fun e w' => e = .returned (idV n.toNat) ∧ Ext w w' := by
  go_enter Try.func26, Try.ntmps26
  have hm := Mem.refl w []
  go_wp2_with (first | ((with_reducible show wpList _ _ _ (⟨_, .alloc _, _, _, _, _⟩ :: _) _ _); refine Stop.mk ?_) | ((with_reducible show wpList _ _ _ (⟨_, .box _ _, _, _, _, _⟩ :: _) _ _); refine Stop.mk ?_) | ((with_reducible show wpList _ _ _ (⟨_, .load _ _, _, _, _, _⟩ :: _) _ _); refine Stop.mk ?_) | ((with_reducible show wpList _ _ _ (⟨_, .store _ _ _, _, _, _, _⟩ :: _) _ _); refine Stop.mk ?_) | ((with_reducible show wpList _ _ _ (⟨_, .build _ _, _, _, _, _⟩ :: _) _ _); refine Stop.mk ?_) | ((with_reducible show wpList _ _ _ (⟨_, .buildSlice _ _ _, _, _, _, _⟩ :: _) _ _); refine Stop.mk ?_) | ((with_reducible show wpList _ _ _ (⟨_, .makeSlice _ _ _, _, _, _, _⟩ :: _) _ _); refine Stop.mk ?_) | ((with_reducible show wpList _ _ _ (⟨_, .call ⟨.builtin .append, _, _⟩, _, _, _, _⟩ :: _) _ _); refine Stop.mk ?_) | ((with_reducible show wpList _ _ _ (⟨_, .call ⟨.builtin .copy, _, _⟩, _, _, _, _⟩ :: _) _ _); refine Stop.mk ?_)); refine Stop.go (wl_alloc (by rfl) zeroID rfl hm ?_); clear hm; intro b1 w1 hm; simp only [Act.put, List.setIfInBounds_toArray, List.set_cons_zero, List.set_cons_succ]; (try simp only [rowOf_set, List.set_cons_zero, List.set_cons_succ, Value.cells, Act.eval, Array.getD_eq_getD_getElem?, List.getElem?_toArray, List.getElem?_cons_zero, List.getElem?_cons_succ, Option.getD_some] at hm)
  go_wp2_with (first | ((with_reducible show wpList _ _ _ (⟨_, .alloc _, _, _, _, _⟩ :: _) _ _); refine Stop.mk ?_) | ((with_reducible show wpList _ _ _ (⟨_, .box _ _, _, _, _, _⟩ :: _) _ _); refine Stop.mk ?_) | ((with_reducible show wpList _ _ _ (⟨_, .load _ _, _, _, _, _⟩ :: _) _ _); refine Stop.mk ?_) | ((with_reducible show wpList _ _ _ (⟨_, .store _ _ _, _, _, _, _⟩ :: _) _ _); refine Stop.mk ?_) | ((with_reducible show wpList _ _ _ (⟨_, .build _ _, _, _, _, _⟩ :: _) _ _); refine Stop.mk ?_) | ((with_reducible show wpList _ _ _ (⟨_, .buildSlice _ _ _, _, _, _, _⟩ :: _) _ _); refine Stop.mk ?_) | ((with_reducible show wpList _ _ _ (⟨_, .makeSlice _ _ _, _, _, _, _⟩ :: _) _ _); refine Stop.mk ?_) | ((with_reducible show wpList _ _ _ (⟨_, .call ⟨.builtin .append, _, _⟩, _, _, _, _⟩ :: _) _ _); refine Stop.mk ?_) | ((with_reducible show wpList _ _ _ (⟨_, .call ⟨.builtin .copy, _, _⟩, _, _, _, _⟩ :: _) _ _); refine Stop.mk ?_)); refine Stop.go (wl_alloc (by rfl) zeroID rfl hm ?_); clear hm; intro b2 w2 hm; simp only [Act.put, List.setIfInBounds_toArray, List.set_cons_zero, List.set_cons_succ]; (try simp only [rowOf_set, List.set_cons_zero, List.set_cons_succ, Value.cells, Act.eval, Array.getD_eq_getD_getElem?, List.getElem?_toArray, List.getElem?_cons_zero, List.getElem?_cons_succ, Option.getD_some] at hm)
  go_wp2_with (first | ((with_reducible show wpList _ _ _ (⟨_, .alloc _, _, _, _, _⟩ :: _) _ _); refine Stop.mk ?_) | ((with_reducible show wpList _ _ _ (⟨_, .box _ _, _, _, _, _⟩ :: _) _ _); refine Stop.mk ?_) | ((with_reducible show wpList _ _ _ (⟨_, .load _ _, _, _, _, _⟩ :: _) _ _); refine Stop.mk ?_) | ((with_reducible show wpList _ _ _ (⟨_, .store _ _ _, _, _, _, _⟩ :: _) _ _); refine Stop.mk ?_) | ((with_reducible show wpList _ _ _ (⟨_, .build _ _, _, _, _, _⟩ :: _) _ _); refine Stop.mk ?_) | ((with_reducible show wpList _ _ _ (⟨_, .buildSlice _ _ _, _, _, _, _⟩ :: _) _ _); refine Stop.mk ?_) | ((with_reducible show wpList _ _ _ (⟨_, .makeSlice _ _ _, _, _, _, _⟩ :: _) _ _); refine Stop.mk ?_) | ((with_reducible show wpList _ _ _ (⟨_, .call ⟨.builtin .append, _, _⟩, _, _, _, _⟩ :: _) _ _); refine Stop.mk ?_) | ((with_reducible show wpList _ _ _ (⟨_, .call ⟨.builtin .copy, _, _⟩, _, _, _, _⟩ :: _) _ _); refine Stop.mk ?_)); refine Stop.go (wl_storeCell (i := 0) (by rfl) hm rfl rfl rfl rfl sizeByte (by simp only [rowOf_size, idC_size]; omega) ?_); clear hm; intro w3 hm; simp only [Act.put, List.setIfInBounds_toArray, List.set_cons_zero, List.set_cons_succ]; simp only [rowOf_set, List.set_cons_zero, List.set_cons_succ, Value.cells, Act.eval, Array.getD_eq_getD_getElem?, List.getElem?_toArray, List.getElem?_cons_zero, List.getElem?_cons_succ, Option.getD_some] at hm
  go_wp2_with (first | ((with_reducible show wpList _ _ _ (⟨_, .alloc _, _, _, _, _⟩ :: _) _ _); refine Stop.mk ?_) | ((with_reducible show wpList _ _ _ (⟨_, .box _ _, _, _, _, _⟩ :: _) _ _); refine Stop.mk ?_) | ((with_reducible show wpList _ _ _ (⟨_, .load _ _, _, _, _, _⟩ :: _) _ _); refine Stop.mk ?_) | ((with_reducible show wpList _ _ _ (⟨_, .store _ _ _, _, _, _, _⟩ :: _) _ _); refine Stop.mk ?_) | ((with_reducible show wpList _ _ _ (⟨_, .build _ _, _, _, _, _⟩ :: _) _ _); refine Stop.mk ?_) | ((with_reducible show wpList _ _ _ (⟨_, .buildSlice _ _ _, _, _, _, _⟩ :: _) _ _); refine Stop.mk ?_) | ((with_reducible show wpList _ _ _ (⟨_, .makeSlice _ _ _, _, _, _, _⟩ :: _) _ _); refine Stop.mk ?_) | ((with_reducible show wpList _ _ _ (⟨_, .call ⟨.builtin .append, _, _⟩, _, _, _, _⟩ :: _) _ _); refine Stop.mk ?_) | ((with_reducible show wpList _ _ _ (⟨_, .call ⟨.builtin .copy, _, _⟩, _, _, _, _⟩ :: _) _ _); refine Stop.mk ?_)); refine Stop.go (wl_storeCell (i := 0) (by rfl) hm rfl rfl rfl rfl sizeByte (by simp only [rowOf_size, idC_size]; omega) ?_); clear hm; intro w4 hm; simp only [Act.put, List.setIfInBounds_toArray, List.set_cons_zero, List.set_cons_succ]; simp only [rowOf_set, List.set_cons_zero, List.set_cons_succ, Value.cells, Act.eval, Array.getD_eq_getD_getElem?, List.getElem?_toArray, List.getElem?_cons_zero, List.getElem?_cons_succ, Option.getD_some] at hm
  go_wp2_with (first | ((with_reducible show wpList _ _ _ (⟨_, .alloc _, _, _, _, _⟩ :: _) _ _); refine Stop.mk ?_) | ((with_reducible show wpList _ _ _ (⟨_, .box _ _, _, _, _, _⟩ :: _) _ _); refine Stop.mk ?_) | ((with_reducible show wpList _ _ _ (⟨_, .load _ _, _, _, _, _⟩ :: _) _ _); refine Stop.mk ?_) | ((with_reducible show wpList _ _ _ (⟨_, .store _ _ _, _, _, _, _⟩ :: _) _ _); refine Stop.mk ?_) | ((with_reducible show wpList _ _ _ (⟨_, .build _ _, _, _, _, _⟩ :: _) _ _); refine Stop.mk ?_) | ((with_reducible show wpList _ _ _ (⟨_, .buildSlice _ _ _, _, _, _, _⟩ :: _) _ _); refine Stop.mk ?_) | ((with_reducible show wpList _ _ _ (⟨_, .makeSlice _ _ _, _, _, _, _⟩ :: _) _ _); refine Stop.mk ?_) | ((with_reducible show wpList _ _ _ (⟨_, .call ⟨.builtin .append, _, _⟩, _, _, _, _⟩ :: _) _ _); refine Stop.mk ?_) | ((with_reducible show wpList _ _ _ (⟨_, .call ⟨.builtin .copy, _, _⟩, _, _, _, _⟩ :: _) _ _); refine Stop.mk ?_)); refine Stop.go (wl_load (i := 0) (by rfl) hm rfl rfl undID rfl (by first | exact sizeID | (simp only [rowOf_size, idC_size]; exact sizeID)) ?_); simp only [Act.put, List.setIfInBounds_toArray, List.set_cons_zero, List.set_cons_succ]; (try simp only [← idV_eq])
  go_wp2_with (first | ((with_reducible show wpList _ _ _ (⟨_, .alloc _, _, _, _, _⟩ :: _) _ _); refine Stop.mk ?_) | ((with_reducible show wpList _ _ _ (⟨_, .box _ _, _, _, _, _⟩ :: _) _ _); refine Stop.mk ?_) | ((with_reducible show wpList _ _ _ (⟨_, .load _ _, _, _, _, _⟩ :: _) _ _); refine Stop.mk ?_) | ((with_reducible show wpList _ _ _ (⟨_, .store _ _ _, _, _, _, _⟩ :: _) _ _); refine Stop.mk ?_) | ((with_reducible show wpList _ _ _ (⟨_, .build _ _, _, _, _, _⟩ :: _) _ _); refine Stop.mk ?_) | ((with_reducible show wpList _ _ _ (⟨_, .buildSlice _ _ _, _, _, _, _⟩ :: _) _ _); refine Stop.mk ?_) | ((with_reducible show wpList _ _ _ (⟨_, .makeSlice _ _ _, _, _, _, _⟩ :: _) _ _); refine Stop.mk ?_) | ((with_reducible show wpList _ _ _ (⟨_, .call ⟨.builtin .append, _, _⟩, _, _, _, _⟩ :: _) _ _); refine Stop.mk ?_) | ((with_reducible show wpList _ _ _ (⟨_, .call ⟨.builtin .copy, _, _⟩, _, _, _, _⟩ :: _) _ _); refine Stop.mk ?_)); refine Stop.go (wl_store (i := 1) (by rfl) hm rfl rfl rfl (by first | rfl | exact idV_eq _) (by first | exact sizeID | (simp only [rowOf_size, idC_size]; exact sizeID)) (by simp only [rowOf_size, idC_size]) (by first | exact rowOf_one _ _ (fun _ _ => rfl) | exact idC_one _ | (exact rowOf_one _ _ (by intro i _; repeat (first | rfl | split)))) ?_); clear hm; intro w5 hm; simp only [Act.put, List.setIfInBounds_toArray, List.set_cons_zero, List.set_cons_succ]; simp only [rowOf_set, List.set_cons_zero, List.set_cons_succ, Value.cells, Act.eval, Array.getD_eq_getD_getElem?, List.getElem?_toArray, List.getElem?_cons_zero, List.getElem?_cons_succ, Option.getD_some] at hm
  go_wp2_with (first | ((with_reducible show wpList _ _ _ (⟨_, .alloc _, _, _, _, _⟩ :: _) _ _); refine Stop.mk ?_) | ((with_reducible show wpList _ _ _ (⟨_, .box _ _, _, _, _, _⟩ :: _) _ _); refine Stop.mk ?_) | ((with_reducible show wpList _ _ _ (⟨_, .load _ _, _, _, _, _⟩ :: _) _ _); refine Stop.mk ?_) | ((with_reducible show wpList _ _ _ (⟨_, .store _ _ _, _, _, _, _⟩ :: _) _ _); refine Stop.mk ?_) | ((with_reducible show wpList _ _ _ (⟨_, .build _ _, _, _, _, _⟩ :: _) _ _); refine Stop.mk ?_) | ((with_reducible show wpList _ _ _ (⟨_, .buildSlice _ _ _, _, _, _, _⟩ :: _) _ _); refine Stop.mk ?_) | ((with_reducible show wpList _ _ _ (⟨_, .makeSlice _ _ _, _, _, _, _⟩ :: _) _ _); refine Stop.mk ?_) | ((with_reducible show wpList _ _ _ (⟨_, .call ⟨.builtin .append, _, _⟩, _, _, _, _⟩ :: _) _ _); refine Stop.mk ?_) | ((with_reducible show wpList _ _ _ (⟨_, .call ⟨.builtin .copy, _, _⟩, _, _, _, _⟩ :: _) _ _); refine Stop.mk ?_)); refine bodyPost_ret (results_cell_row (h := rfl) _ _ b1 _ _ _ _ rfl (hm.heap (i := 1) rfl) undID rfl (by first | exact sizeID | (simp only [rowOf_size, idC_size]; exact sizeID))) rfl ?_
  refine ⟨?_, hm.ext⟩
  rw [idV_eq, idC, rowOf_congr]
  intro i hi
  rw [dig_small _ (by omega) i hi]
  by_cases h18 : i = 18
  · subst h18; simp; omega
  by_cases h19 : i = 19
  · subst h19; simp; omega
  simp [h18, h19]

theorem dig_lt (a i : Nat) : dig a i < 256 := Nat.mod_lt _ (by omega)
/-- What is carried into the digit ahead of k low ones. -/
def carry (a b k : Nat) : Nat := (a % 256 ^ k + b % 256 ^ k) / 256 ^ k
theorem carry_zero (a b : Nat) : carry a b 0 = 0 := by simp [carry, Nat.mod_one]
theorem carry_le (a b k : Nat) : carry a b k ≤ 1 := by
  unfold carry
  have hp : 0 < 256 ^ k := Nat.pow_pos (by omega)
  have h1 := Nat.mod_lt a hp
  have h2 := Nat.mod_lt b hp
  have : (a % 256 ^ k + b % 256 ^ k) / 256 ^ k < 2 := by rw [Nat.div_lt_iff_lt_mul hp]; omega
  omega
theorem add_div_pow (a b k : Nat) : (a + b) / 256 ^ k = a / 256 ^ k + b / 256 ^ k + carry a b k := by
  unfold carry
  have hp : 0 < 256 ^ k := Nat.pow_pos (by omega)
  generalize 256 ^ k = p at *
  have h1 := Nat.div_add_mod a p
  have h2 := Nat.div_add_mod b p
  have e : a + b = (a % p + b % p) + p * (a / p + b / p) := by rw [Nat.mul_add]; omega
  rw [e, Nat.add_mul_div_left _ _ hp]
  omega
theorem carry_succ (a b k : Nat) : carry a b (k + 1) = (carry a b k + (a / 256 ^ k % 256 + b / 256 ^ k % 256)) / 256 := by
  unfold carry
  have hp : 0 < 256 ^ k := Nat.pow_pos (by omega)
  rw [Nat.pow_succ]
  generalize 256 ^ k = p at *
  rw [Nat.mod_mul, Nat.mod_mul, ← Nat.div_div_eq_div_mul]
  have e : a % p + p * (a / p % 256) + (b % p + p * (b / p % 256)) = (a % p + b % p) + p * (a / p % 256 + b / p % 256) := by rw [Nat.mul_add]; omega
  rw [e, Nat.add_mul_div_left _ _ hp]
theorem dig_add (a b i : Nat) : dig (a + b) i = (carry a b (19 - i) + (dig a i + dig b i)) % 256 := by
  unfold dig
  rw [add_div_pow]
  omega
theorem carry_step (a b i : Nat) (h : i < 20) : carry a b (20 - i) = (carry a b (19 - i) + (dig a i + dig b i)) / 256 := by
  unfold dig
  rw [show 20 - i = (19 - i) + 1 from by omega, carry_succ]

theorem plus_c (a b : Nat) (w : World) :
    Calls Try.prog 12 #[idV a, idV b] w fun e w' => e = .returned (idV (a + b)) ∧ Ext w w' := by
  go_enter Try.func12, Try.ntmps12
  have hm := Mem.refl w []
  go_wp2_with (first | ((with_reducible show wpList _ _ _ (⟨_, .alloc _, _, _, _, _⟩ :: _) _ _); refine Stop.mk ?_) | ((with_reducible show wpList _ _ _ (⟨_, .box _ _, _, _, _, _⟩ :: _) _ _); refine Stop.mk ?_) | ((with_reducible show wpList _ _ _ (⟨_, .load _ _, _, _, _, _⟩ :: _) _ _); refine Stop.mk ?_) | ((with_reducible show wpList _ _ _ (⟨_, .store _ _ _, _, _, _, _⟩ :: _) _ _); refine Stop.mk ?_) | ((with_reducible show wpList _ _ _ (⟨_, .build _ _, _, _, _, _⟩ :: _) _ _); refine Stop.mk ?_) | ((with_reducible show wpList _ _ _ (⟨_, .buildSlice _ _ _, _, _, _, _⟩ :: _) _ _); refine Stop.mk ?_) | ((with_reducible show wpList _ _ _ (⟨_, .makeSlice _ _ _, _, _, _, _⟩ :: _) _ _); refine Stop.mk ?_) | ((with_reducible show wpList _ _ _ (⟨_, .call ⟨.builtin .append, _, _⟩, _, _, _, _⟩ :: _) _ _); refine Stop.mk ?_) | ((with_reducible show wpList _ _ _ (⟨_, .call ⟨.builtin .copy, _, _⟩, _, _, _, _⟩ :: _) _ _); refine Stop.mk ?_)); refine Stop.go (wl_box (by rfl) rfl (idV_cells a) hm ?_); clear hm; intro b1 w1 hm; simp only [Act.put, List.setIfInBounds_toArray, List.set_cons_zero, List.set_cons_succ]; (try simp only [rowOf_set, List.set_cons_zero, List.set_cons_succ, Value.cells, Act.eval, Array.getD_eq_getD_getElem?, List.getElem?_toArray, List.getElem?_cons_zero, List.getElem?_cons_succ, Option.getD_some] at hm)
  go_wp2_with (first | ((with_reducible show wpList _ _ _ (⟨_, .alloc _, _, _, _, _⟩ :: _) _ _); refine Stop.mk ?_) | ((with_reducible show wpList _ _ _ (⟨_, .box _ _, _, _, _, _⟩ :: _) _ _); refine Stop.mk ?_) | ((with_reducible show wpList _ _ _ (⟨_, .load _ _, _, _, _, _⟩ :: _) _ _); refine Stop.mk ?_) | ((with_reducible show wpList _ _ _ (⟨_, .store _ _ _, _, _, _, _⟩ :: _) _ _); refine Stop.mk ?_) | ((with_reducible show wpList _ _ _ (⟨_, .build _ _, _, _, _, _⟩ :: _) _ _); refine Stop.mk ?_) | ((with_reducible show wpList _ _ _ (⟨_, .buildSlice _ _ _, _, _, _, _⟩ :: _) _ _); refine Stop.mk ?_) | ((with_reducible show wpList _ _ _ (⟨_, .makeSlice _ _ _, _, _, _, _⟩ :: _) _ _); refine Stop.mk ?_) | ((with_reducible show wpList _ _ _ (⟨_, .call ⟨.builtin .append, _, _⟩, _, _, _, _⟩ :: _) _ _); refine Stop.mk ?_) | ((with_reducible show wpList _ _ _ (⟨_, .call ⟨.builtin .copy, _, _⟩, _, _, _, _⟩ :: _) _ _); refine Stop.mk ?_)); refine Stop.go (wl_box (by rfl) rfl (idV_cells b) hm ?_); clear hm; intro b2 w2 hm; simp only [Act.put, List.setIfInBounds_toArray, List.set_cons_zero, List.set_cons_succ]; (try simp only [rowOf_set, List.set_cons_zero, List.set_cons_succ, Value.cells, Act.eval, Array.getD_eq_getD_getElem?, List.getElem?_toArray, List.getElem?_cons_zero, List.getElem?_cons_succ, Option.getD_some] at hm)
  go_wp2_with (first | ((with_reducible show wpList _ _ _ (⟨_, .alloc _, _, _, _, _⟩ :: _) _ _); refine Stop.mk ?_) | ((with_reducible show wpList _ _ _ (⟨_, .box _ _, _, _, _, _⟩ :: _) _ _); refine Stop.mk ?_) | ((with_reducible show wpList _ _ _ (⟨_, .load _ _, _, _, _, _⟩ :: _) _ _); refine Stop.mk ?_) | ((with_reducible show wpList _ _ _ (⟨_, .store _ _ _, _, _, _, _⟩ :: _) _ _); refine Stop.mk ?_) | ((with_reducible show wpList _ _ _ (⟨_, .build _ _, _, _, _, _⟩ :: _) _ _); refine Stop.mk ?_) | ((with_reducible show wpList _ _ _ (⟨_, .buildSlice _ _ _, _, _, _, _⟩ :: _) _ _); refine Stop.mk ?_) | ((with_reducible show wpList _ _ _ (⟨_, .makeSlice _ _ _, _, _, _, _⟩ :: _) _ _); refine Stop.mk ?_) | ((with_reducible show wpList _ _ _ (⟨_, .call ⟨.builtin .append, _, _⟩, _, _, _, _⟩ :: _) _ _); refine Stop.mk ?_) | ((with_reducible show wpList _ _ _ (⟨_, .call ⟨.builtin .copy, _, _⟩, _, _, _, _⟩ :: _) _ _); refine Stop.mk ?_)); refine Stop.go (wl_alloc (by rfl) zeroID rfl hm ?_); clear hm; intro b3 w3 hm; simp only [Act.put, List.setIfInBounds_toArray, List.set_cons_zero, List.set_cons_succ]; (try simp only [rowOf_set, List.set_cons_zero, List.set_cons_succ, Value.cells, Act.eval, Array.getD_eq_getD_getElem?, List.getElem?_toArray, List.getElem?_cons_zero, List.getElem?_cons_succ, Option.getD_some] at hm)
  go_wp2_with (first | ((with_reducible show wpList _ _ _ (⟨_, .alloc _, _, _, _, _⟩ :: _) _ _); refine Stop.mk ?_) | ((with_reducible show wpList _ _ _ (⟨_, .box _ _, _, _, _, _⟩ :: _) _ _); refine Stop.mk ?_) | ((with_reducible show wpList _ _ _ (⟨_, .load _ _, _, _, _, _⟩ :: _) _ _); refine Stop.mk ?_) | ((with_reducible show wpList _ _ _ (⟨_, .store _ _ _, _, _, _, _⟩ :: _) _ _); refine Stop.mk ?_) | ((with_reducible show wpList _ _ _ (⟨_, .build _ _, _, _, _, _⟩ :: _) _ _); refine Stop.mk ?_) | ((with_reducible show wpList _ _ _ (⟨_, .buildSlice _ _ _, _, _, _, _⟩ :: _) _ _); refine Stop.mk ?_) | ((with_reducible show wpList _ _ _ (⟨_, .makeSlice _ _ _, _, _, _, _⟩ :: _) _ _); refine Stop.mk ?_) | ((with_reducible show wpList _ _ _ (⟨_, .call ⟨.builtin .append, _, _⟩, _, _, _, _⟩ :: _) _ _); refine Stop.mk ?_) | ((with_reducible show wpList _ _ _ (⟨_, .call ⟨.builtin .copy, _, _⟩, _, _, _, _⟩ :: _) _ _); refine Stop.mk ?_)); refine Stop.go (wl_alloc (by rfl) zeroID rfl hm ?_); clear hm; intro b4 w4 hm; simp only [Act.put, List.setIfInBounds_toArray, List.set_cons_zero, List.set_cons_succ]; (try simp only [rowOf_set, List.set_cons_zero, List.set_cons_succ, Value.cells, Act.eval, Array.getD_eq_getD_getElem?, List.getElem?_toArray, List.getElem?_cons_zero, List.getElem?_cons_succ, Option.getD_some] at hm)
  go_wp2_with (first | ((with_reducible show wpList _ _ _ (⟨_, .alloc _, _, _, _, _⟩ :: _) _ _); refine Stop.mk ?_) | ((with_reducible show wpList _ _ _ (⟨_, .box _ _, _, _, _, _⟩ :: _) _ _); refine Stop.mk ?_) | ((with_reducible show wpList _ _ _ (⟨_, .load _ _, _, _, _, _⟩ :: _) _ _); refine Stop.mk ?_) | ((with_reducible show wpList _ _ _ (⟨_, .store _ _ _, _, _, _, _⟩ :: _) _ _); refine Stop.mk ?_) | ((with_reducible show wpList _ _ _ (⟨_, .build _ _, _, _, _, _⟩ :: _) _ _); refine Stop.mk ?_) | ((with_reducible show wpList _ _ _ (⟨_, .buildSlice _ _ _, _, _, _, _⟩ :: _) _ _); refine Stop.mk ?_) | ((with_reducible show wpList _ _ _ (⟨_, .makeSlice _ _ _, _, _, _, _⟩ :: _) _ _); refine Stop.mk ?_) | ((with_reducible show wpList _ _ _ (⟨_, .call ⟨.builtin .append, _, _⟩, _, _, _, _⟩ :: _) _ _); refine Stop.mk ?_) | ((with_reducible show wpList _ _ _ (⟨_, .call ⟨.builtin .copy, _, _⟩, _, _, _, _⟩ :: _) _ _); refine Stop.mk ?_))
  go_loopw [6, 7] (fun c i wr => ∃ k : Nat, k ≤ 20 ∧ i = .int .i64 ((k : Int) - 1) ∧ c = .int .u64 ((carry a b (20 - k) : Nat) : Int) ∧
      Mem w [] [(b4, .cells (rowOf 20 fun j => .int .u8 (if j < k then 0 else ((dig (a + b) j : Nat) : Int))) 23), (b3, .cells (rowOf 20 fun _ => .int .u8 0) 23), (b2, .cells (idC b) 23), (b1, .cells (idC a) 23)] wr)
    (fun _ i _ => (intOf i + 1).toNat)
  case atStart =>
    refine ⟨20, by omega, rfl, by rw [carry_zero]; rfl, ?_⟩
    rw [show (rowOf 20 fun j => Value.int .u8 (if j < 20 then 0 else ((dig (a + b) j : Nat) : Int))) = rowOf 20 fun _ => Value.int .u8 0 from rowOf_congr fun i hi => by rw [if_pos hi]]
    exact hm
  case round =>
    clear hm
    obtain ⟨k, hk, rfl, rfl, hm⟩ := hrel
    by_cases h0 : k = 0
    · subst h0
      go_wp2_with (first | ((with_reducible show wpList _ _ _ (⟨_, .alloc _, _, _, _, _⟩ :: _) _ _); refine Stop.mk ?_) | ((with_reducible show wpList _ _ _ (⟨_, .box _ _, _, _, _, _⟩ :: _) _ _); refine Stop.mk ?_) | ((with_reducible show wpList _ _ _ (⟨_, .load _ _, _, _, _, _⟩ :: _) _ _); refine Stop.mk ?_) | ((with_reducible show wpList _ _ _ (⟨_, .store _ _ _, _, _, _, _⟩ :: _) _ _); refine Stop.mk ?_) | ((with_reducible show wpList _ _ _ (⟨_, .build _ _, _, _, _, _⟩ :: _) _ _); refine Stop.mk ?_) | ((with_reducible show wpList _ _ _ (⟨_, .buildSlice _ _ _, _, _, _, _⟩ :: _) _ _); refine Stop.mk ?_) | ((with_reducible show wpList _ _ _ (⟨_, .makeSlice _ _ _, _, _, _, _⟩ :: _) _ _); refine Stop.mk ?_) | ((with_reducible show wpList _ _ _ (⟨_, .call ⟨.builtin .append, _, _⟩, _, _, _, _⟩ :: _) _ _); refine Stop.mk ?_) | ((with_reducible show wpList _ _ _ (⟨_, .call ⟨.builtin .copy, _, _⟩, _, _, _, _⟩ :: _) _ _); refine Stop.mk ?_)); refine Stop.go (wl_load (i := 0) (by rfl) hm rfl rfl undID rfl (by first | exact sizeID | (simp only [rowOf_size, idC_size]; exact sizeID)) ?_); simp only [Act.put, List.setIfInBounds_toArray, List.set_cons_zero, List.set_cons_succ]; (try simp only [← idV_eq])
      go_wp2_with (first | ((with_reducible show wpList _ _ _ (⟨_, .alloc _, _, _, _, _⟩ :: _) _ _); refine Stop.mk ?_) | ((with_reducible show wpList _ _ _ (⟨_, .box _ _, _, _, _, _⟩ :: _) _ _); refine Stop.mk ?_) | ((with_reducible show wpList _ _ _ (⟨_, .load _ _, _, _, _, _⟩ :: _) _ _); refine Stop.mk ?_) | ((with_reducible show wpList _ _ _ (⟨_, .store _ _ _, _, _, _, _⟩ :: _) _ _); refine Stop.mk ?_) | ((with_reducible show wpList _ _ _ (⟨_, .build _ _, _, _, _, _⟩ :: _) _ _); refine Stop.mk ?_) | ((with_reducible show wpList _ _ _ (⟨_, .buildSlice _ _ _, _, _, _, _⟩ :: _) _ _); refine Stop.mk ?_) | ((with_reducible show wpList _ _ _ (⟨_, .makeSlice _ _ _, _, _, _, _⟩ :: _) _ _); refine Stop.mk ?_) | ((with_reducible show wpList _ _ _ (⟨_, .call ⟨.builtin .append, _, _⟩, _, _, _, _⟩ :: _) _ _); refine Stop.mk ?_) | ((with_reducible show wpList _ _ _ (⟨_, .call ⟨.builtin .copy, _, _⟩, _, _, _, _⟩ :: _) _ _); refine Stop.mk ?_)); refine Stop.go (wl_store (i := 1) (by rfl) hm rfl rfl rfl (by first | rfl | exact idV_eq _) (by first | exact sizeID | (simp only [rowOf_size, idC_size]; exact sizeID)) (by simp only [rowOf_size, idC_size]) (by first | exact rowOf_one _ _ (fun _ _ => rfl) | exact idC_one _ | (exact rowOf_one _ _ (by intro i _; repeat (first | rfl | split)))) ?_); clear hm; intro w5 hm; simp only [Act.put, List.setIfInBounds_toArray, List.set_cons_zero, List.set_cons_succ]; simp only [rowOf_set, List.set_cons_zero, List.set_cons_succ, Value.cells, Act.eval, Array.getD_eq_getD_getElem?, List.getElem?_toArray, List.getElem?_cons_zero, List.getElem?_cons_succ, Option.getD_some] at hm
      go_wp2_with (first | ((with_reducible show wpList _ _ _ (⟨_, .alloc _, _, _, _, _⟩ :: _) _ _); refine Stop.mk ?_) | ((with_reducible show wpList _ _ _ (⟨_, .box _ _, _, _, _, _⟩ :: _) _ _); refine Stop.mk ?_) | ((with_reducible show wpList _ _ _ (⟨_, .load _ _, _, _, _, _⟩ :: _) _ _); refine Stop.mk ?_) | ((with_reducible show wpList _ _ _ (⟨_, .store _ _ _, _, _, _, _⟩ :: _) _ _); refine Stop.mk ?_) | ((with_reducible show wpList _ _ _ (⟨_, .build _ _, _, _, _, _⟩ :: _) _ _); refine Stop.mk ?_) | ((with_reducible show wpList _ _ _ (⟨_, .buildSlice _ _ _, _, _, _, _⟩ :: _) _ _); refine Stop.mk ?_) | ((with_reducible show wpList _ _ _ (⟨_, .makeSlice _ _ _, _, _, _, _⟩ :: _) _ _); refine Stop.mk ?_) | ((with_reducible show wpList _ _ _ (⟨_, .call ⟨.builtin .append, _, _⟩, _, _, _, _⟩ :: _) _ _); refine Stop.mk ?_) | ((with_reducible show wpList _ _ _ (⟨_, .call ⟨.builtin .copy, _, _⟩, _, _, _, _⟩ :: _) _ _); refine Stop.mk ?_)); refine bodyPost_ret (results_cell_row (h := rfl) _ _ b3 _ _ _ _ rfl (hm.heap (i := 1) rfl) undID rfl (by first | exact sizeID | (simp only [rowOf_size, idC_size]; exact sizeID))) rfl ?_
      refine ⟨?_, hm.ext⟩
      rw [idV_eq, idC]
      simp only [Nat.not_lt_zero, if_false]
    · obtain ⟨m, rfl⟩ : ∃ m, k = m + 1 := ⟨k - 1, by omega⟩
      rw [show (((m + 1 : Nat) : Int) - 1) = (m : Int) from by omega]
      have hm20 : (m : Int) < 20 := by omega
      have hm0 : (0 : Int) ≤ (m : Int) := by omega
      rw [show 20 - (m + 1) = 19 - m from by omega]
      have hc1 := carry_le a b (19 - m)
      have ha1 := dig_lt a m
      have hb1 := dig_lt b m
      have q1 : IntKind.u64.wrap ((dig a m : Nat) : Int) = ((dig a m : Nat) : Int) := wrap_u64 (by omega) (by omega)
      have q2 : IntKind.u64.wrap ((dig b m : Nat) : Int) = ((dig b m : Nat) : Int) := wrap_u64 (by omega) (by omega)
      have q3 : IntKind.u64.wrap (((dig a m : Nat) : Int) + ((dig b m : Nat) : Int)) = ((dig a m : Nat) : Int) + ((dig b m : Nat) : Int) := wrap_u64 (by omega) (by omega)
      have q4 : IntKind.u64.wrap (((carry a b (19 - m) : Nat) : Int) + (((dig a m : Nat) : Int) + ((dig b m : Nat) : Int))) = ((carry a b (19 - m) : Nat) : Int) + (((dig a m : Nat) : Int) + ((dig b m : Nat) : Int)) := wrap_u64 (by omega) (by omega)
      have HS := hid (carry_step a b m (by omega))
      have HD := hid (dig_add a b m)
      go_wp2_with (first | ((with_reducible show wpList _ _ _ (⟨_, .alloc _, _, _, _, _⟩ :: _) _ _); refine Stop.mk ?_) | ((with_reducible show wpList _ _ _ (⟨_, .box _ _, _, _, _, _⟩ :: _) _ _); refine Stop.mk ?_) | ((with_reducible show wpList _ _ _ (⟨_, .load _ _, _, _, _, _⟩ :: _) _ _); refine Stop.mk ?_) | ((with_reducible show wpList _ _ _ (⟨_, .store _ _ _, _, _, _, _⟩ :: _) _ _); refine Stop.mk ?_) | ((with_reducible show wpList _ _ _ (⟨_, .build _ _, _, _, _, _⟩ :: _) _ _); refine Stop.mk ?_) | ((with_reducible show wpList _ _ _ (⟨_, .buildSlice _ _ _, _, _, _, _⟩ :: _) _ _); refine Stop.mk ?_) | ((with_reducible show wpList _ _ _ (⟨_, .makeSlice _ _ _, _, _, _, _⟩ :: _) _ _); refine Stop.mk ?_) | ((with_reducible show wpList _ _ _ (⟨_, .call ⟨.builtin .append, _, _⟩, _, _, _, _⟩ :: _) _ _); refine Stop.mk ?_) | ((with_reducible show wpList _ _ _ (⟨_, .call ⟨.builtin .copy, _, _⟩, _, _, _, _⟩ :: _) _ _); refine Stop.mk ?_)); refine wp_quiet_mem (by kernel_rfl) (by kernel_rfl) hm ?_
      refine wq_any (by rfl) ?_; apply Exists.intro; refine ⟨?_, ?_⟩; · (intro w hC; go_simp; try with_reducible rfl)
      simp only [Act.put, List.setIfInBounds_toArray, List.set_cons_zero, List.set_cons_succ]
      refine wq_any (by rfl) ?_; apply Exists.intro; refine ⟨?_, ?_⟩; · (intro w hC; go_simp; try with_reducible rfl)
      simp only [Act.put, List.setIfInBounds_toArray, List.set_cons_zero, List.set_cons_succ]
      refine wq_any (by rfl) ?_; apply Exists.intro; refine ⟨?_, ?_⟩; · (intro w hC; go_simp; try with_reducible rfl)
      simp only [Act.put, List.setIfInBounds_toArray, List.set_cons_zero, List.set_cons_succ]
      refine wq_loadCell (i := 3) rfl rfl rfl (rowOf_get _ _ m (by omega)) undByte rfl ?_; simp only [Act.put, List.setIfInBounds_toArray, List.set_cons_zero, List.set_cons_succ]
      refine wq_any (by rfl) ?_; apply Exists.intro; refine ⟨?_, ?_⟩; · (intro w hC; go_simp; try with_reducible rfl)
      simp only [Act.put, List.setIfInBounds_toArray, List.set_cons_zero, List.set_cons_succ]
      refine wq_any (by rfl) ?_; apply Exists.intro; refine ⟨?_, ?_⟩; · (intro w hC; go_simp; try with_reducible rfl)
      simp only [Act.put, List.setIfInBounds_toArray, List.set_cons_zero, List.set_cons_succ]
      refine wq_any (by rfl) ?_; apply Exists.intro; refine ⟨?_, ?_⟩; · (intro w hC; go_simp; try with_reducible rfl)
      simp only [Act.put, List.setIfInBounds_toArray, List.set_cons_zero, List.set_cons_succ]
      refine wq_loadCell (i := 2) rfl rfl rfl (rowOf_get _ _ m (by omega)) undByte rfl ?_; simp only [Act.put, List.setIfInBounds_toArray, List.set_cons_zero, List.set_cons_succ]
      refine wq_any (by rfl) ?_; apply Exists.intro; refine ⟨?_, ?_⟩; · (intro w hC; go_simp; try with_reducible rfl)
      simp only [Act.put, List.setIfInBounds_toArray, List.set_cons_zero, List.set_cons_succ]
      refine wq_any (by rfl) ?_; apply Exists.intro; refine ⟨?_, ?_⟩; · (intro w hC; go_simp; try with_reducible rfl)
      simp only [Act.put, List.setIfInBounds_toArray, List.set_cons_zero, List.set_cons_succ]
      refine wq_any (by rfl) ?_; apply Exists.intro; refine ⟨?_, ?_⟩; · (intro w hC; go_simp; try with_reducible rfl)
      simp only [Act.put, List.setIfInBounds_toArray, List.set_cons_zero, List.set_cons_succ]
      refine wq_any (by rfl) ?_; apply Exists.intro; refine ⟨?_, ?_⟩; · (intro w hC; go_simp; try with_reducible rfl)
      simp only [Act.put, List.setIfInBounds_toArray, List.set_cons_zero, List.set_cons_succ]
      refine wpQuiet_nil ?_; clear hm; intro w5 hm
      go_wp2_with (first | ((with_reducible show wpList _ _ _ (⟨_, .alloc _, _, _, _, _⟩ :: _) _ _); refine Stop.mk ?_) | ((with_reducible show wpList _ _ _ (⟨_, .box _ _, _, _, _, _⟩ :: _) _ _); refine Stop.mk ?_) | ((with_reducible show wpList _ _ _ (⟨_, .load _ _, _, _, _, _⟩ :: _) _ _); refine Stop.mk ?_) | ((with_reducible show wpList _ _ _ (⟨_, .store _ _ _, _, _, _, _⟩ :: _) _ _); refine Stop.mk ?_) | ((with_reducible show wpList _ _ _ (⟨_, .build _ _, _, _, _, _⟩ :: _) _ _); refine Stop.mk ?_) | ((with_reducible show wpList _ _ _ (⟨_, .buildSlice _ _ _, _, _, _, _⟩ :: _) _ _); refine Stop.mk ?_) | ((with_reducible show wpList _ _ _ (⟨_, .makeSlice _ _ _, _, _, _, _⟩ :: _) _ _); refine Stop.mk ?_) | ((with_reducible show wpList _ _ _ (⟨_, .call ⟨.builtin .append, _, _⟩, _, _, _, _⟩ :: _) _ _); refine Stop.mk ?_) | ((with_reducible show wpList _ _ _ (⟨_, .call ⟨.builtin .copy, _, _⟩, _, _, _, _⟩ :: _) _ _); refine Stop.mk ?_)); refine Stop.go (wl_storeCell (i := 0) (by rfl) hm rfl rfl rfl rfl sizeByte (by simp only [rowOf_size, idC_size]; omega) ?_); clear hm; intro w6 hm; simp only [Act.put, List.setIfInBounds_toArray, List.set_cons_zero, List.set_cons_succ]; simp only [rowOf_set, List.set_cons_zero, List.set_cons_succ, Value.cells, Act.eval, Array.getD_eq_getD_getElem?, List.getElem?_toArray, List.getElem?_cons_zero, List.getElem?_cons_succ, Option.getD_some] at hm
      go_wp2_with (first | ((with_reducible show wpList _ _ _ (⟨_, .alloc _, _, _, _, _⟩ :: _) _ _); refine Stop.mk ?_) | ((with_reducible show wpList _ _ _ (⟨_, .box _ _, _, _, _, _⟩ :: _) _ _); refine Stop.mk ?_) | ((with_reducible show wpList _ _ _ (⟨_, .load _ _, _, _, _, _⟩ :: _) _ _); refine Stop.mk ?_) | ((with_reducible show wpList _ _ _ (⟨_, .store _ _ _, _, _, _, _⟩ :: _) _ _); refine Stop.mk ?_) | ((with_reducible show wpList _ _ _ (⟨_, .build _ _, _, _, _, _⟩ :: _) _ _); refine Stop.mk ?_) | ((with_reducible show wpList _ _ _ (⟨_, .buildSlice _ _ _, _, _, _, _⟩ :: _) _ _); refine Stop.mk ?_) | ((with_reducible show wpList _ _ _ (⟨_, .makeSlice _ _ _, _, _, _, _⟩ :: _) _ _); refine Stop.mk ?_) | ((with_reducible show wpList _ _ _ (⟨_, .call ⟨.builtin .append, _, _⟩, _, _, _, _⟩ :: _) _ _); refine Stop.mk ?_) | ((with_reducible show wpList _ _ _ (⟨_, .call ⟨.builtin .copy, _, _⟩, _, _, _, _⟩ :: _) _ _); refine Stop.mk ?_))
      go_roundw
      case rel =>
        refine ⟨m, by omega, rfl, ?_, ?_⟩
        · rw [HS.out]; simp
        · refine Eq.mp ?_ hm
          congr 4
          apply rowOf_congr
          intro j hj
          by_cases hjm : j = m
          · subst hjm
            rw [if_pos rfl, if_neg (by omega), HD.out]; simp
          · rw [if_neg hjm]
            by_cases hlt : j < m
            · rw [if_pos (by omega), if_pos hlt]
            · rw [if_neg (by omega), if_neg hlt]
      case measure => simp [intOf]

theorem refPlus_c (a b : Nat) (w : World) :
    Calls Try.prog 13 #[idV a, idV b] w fun e w' => e = .returned (idV (a + b)) ∧ Ext w w' := by
  go_enter Try.func13, Try.ntmps13
  have hm := Mem.refl w []
  go_wp2_with (first | ((with_reducible show wpList _ _ _ (⟨_, .alloc _, _, _, _, _⟩ :: _) _ _); refine Stop.mk ?_) | ((with_reducible show wpList _ _ _ (⟨_, .box _ _, _, _, _, _⟩ :: _) _ _); refine Stop.mk ?_) | ((with_reducible show wpList _ _ _ (⟨_, .load _ _, _, _, _, _⟩ :: _) _ _); refine Stop.mk ?_) | ((with_reducible show wpList _ _ _ (⟨_, .store _ _ _, _, _, _, _⟩ :: _) _ _); refine Stop.mk ?_) | ((with_reducible show wpList _ _ _ (⟨_, .build _ _, _, _, _, _⟩ :: _) _ _); refine Stop.mk ?_) | ((with_reducible show wpList _ _ _ (⟨_, .buildSlice _ _ _, _, _, _, _⟩ :: _) _ _); refine Stop.mk ?_) | ((with_reducible show wpList _ _ _ (⟨_, .makeSlice _ _ _, _, _, _, _⟩ :: _) _ _); refine Stop.mk ?_) | ((with_reducible show wpList _ _ _ (⟨_, .call ⟨.builtin .append, _, _⟩, _, _, _, _⟩ :: _) _ _); refine Stop.mk ?_) | ((with_reducible show wpList _ _ _ (⟨_, .call ⟨.builtin .copy, _, _⟩, _, _, _, _⟩ :: _) _ _); refine Stop.mk ?_)); refine Stop.go (wl_box (by rfl) rfl (idV_cells a) hm ?_); clear hm; intro b1 w1 hm; simp only [Act.put, List.setIfInBounds_toArray, List.set_cons_zero, List.set_cons_succ]; (try simp only [rowOf_set, List.set_cons_zero, List.set_cons_succ, Value.cells, Act.eval, Array.getD_eq_getD_getElem?, List.getElem?_toArray, List.getElem?_cons_zero, List.getElem?_cons_succ, Option.getD_some] at hm)
  go_wp2_with (first | ((with_reducible show wpList _ _ _ (⟨_, .alloc _, _, _, _, _⟩ :: _) _ _); refine Stop.mk ?_) | ((with_reducible show wpList _ _ _ (⟨_, .box _ _, _, _, _, _⟩ :: _) _ _); refine Stop.mk ?_) | ((with_reducible show wpList _ _ _ (⟨_, .load _ _, _, _, _, _⟩ :: _) _ _); refine Stop.mk ?_) | ((with_reducible show wpList _ _ _ (⟨_, .store _ _ _, _, _, _, _⟩ :: _) _ _); refine Stop.mk ?_) | ((with_reducible show wpList _ _ _ (⟨_, .build _ _, _, _, _, _⟩ :: _) _ _); refine Stop.mk ?_) | ((with_reducible show wpList _ _ _ (⟨_, .buildSlice _ _ _, _, _, _, _⟩ :: _) _ _); refine Stop.mk ?_) | ((with_reducible show wpList _ _ _ (⟨_, .makeSlice _ _ _, _, _, _, _⟩ :: _) _ _); refine Stop.mk ?_) | ((with_reducible show wpList _ _ _ (⟨_, .call ⟨.builtin .append, _, _⟩, _, _, _, _⟩ :: _) _ _); refine Stop.mk ?_) | ((with_reducible show wpList _ _ _ (⟨_, .call ⟨.builtin .copy, _, _⟩, _, _, _, _⟩ :: _) _ _); refine Stop.mk ?_)); refine Stop.go (wl_box (by rfl) rfl (idV_cells b) hm ?_); clear hm; intro b2 w2 hm; simp only [Act.put, List.setIfInBounds_toArray, List.set_cons_zero, List.set_cons_succ]; (try simp only [rowOf_set, List.set_cons_zero, List.set_cons_succ, Value.cells, Act.eval, Array.getD_eq_getD_getElem?, List.getElem?_toArray, List.getElem?_cons_zero, List.getElem?_cons_succ, Option.getD_some] at hm)
  go_wp2_with (first | ((with_reducible show wpList _ _ _ (⟨_, .alloc _, _, _, _, _⟩ :: _) _ _); refine Stop.mk ?_) | ((with_reducible show wpList _ _ _ (⟨_, .box _ _, _, _, _, _⟩ :: _) _ _); refine Stop.mk ?_) | ((with_reducible show wpList _ _ _ (⟨_, .load _ _, _, _, _, _⟩ :: _) _ _); refine Stop.mk ?_) | ((with_reducible show wpList _ _ _ (⟨_, .store _ _ _, _, _, _, _⟩ :: _) _ _); refine Stop.mk ?_) | ((with_reducible show wpList _ _ _ (⟨_, .build _ _, _, _, _, _⟩ :: _) _ _); refine Stop.mk ?_) | ((with_reducible show wpList _ _ _ (⟨_, .buildSlice _ _ _, _, _, _, _⟩ :: _) _ _); refine Stop.mk ?_) | ((with_reducible show wpList _ _ _ (⟨_, .makeSlice _ _ _, _, _, _, _⟩ :: _) _ _); refine Stop.mk ?_) | ((with_reducible show wpList _ _ _ (⟨_, .call ⟨.builtin .append, _, _⟩, _, _, _, _⟩ :: _) _ _); refine Stop.mk ?_) | ((with_reducible show wpList _ _ _ (⟨_, .call ⟨.builtin .copy, _, _⟩, _, _, _, _⟩ :: _) _ _); refine Stop.mk ?_)); refine Stop.go (wl_alloc (by rfl) zeroID rfl hm ?_); clear hm; intro b3 w3 hm; simp only [Act.put, List.setIfInBounds_toArray, List.set_cons_zero, List.set_cons_succ]; (try simp only [rowOf_set, List.set_cons_zero, List.set_cons_succ, Value.cells, Act.eval, Array.getD_eq_getD_getElem?, List.getElem?_toArray, List.getElem?_cons_zero, List.getElem?_cons_succ, Option.getD_some] at hm)
  go_wp2_with (first | ((with_reducible show wpList _ _ _ (⟨_, .alloc _, _, _, _, _⟩ :: _) _ _); refine Stop.mk ?_) | ((with_reducible show wpList _ _ _ (⟨_, .box _ _, _, _, _, _⟩ :: _) _ _); refine Stop.mk ?_) | ((with_reducible show wpList _ _ _ (⟨_, .load _ _, _, _, _, _⟩ :: _) _ _); refine Stop.mk ?_) | ((with_reducible show wpList _ _ _ (⟨_, .store _ _ _, _, _, _, _⟩ :: _) _ _); refine Stop.mk ?_) | ((with_reducible show wpList _ _ _ (⟨_, .build _ _, _, _, _, _⟩ :: _) _ _); refine Stop.mk ?_) | ((with_reducible show wpList _ _ _ (⟨_, .buildSlice _ _ _, _, _, _, _⟩ :: _) _ _); refine Stop.mk ?_) | ((with_reducible show wpList _ _ _ (⟨_, .makeSlice _ _ _, _, _, _, _⟩ :: _) _ _); refine Stop.mk ?_) | ((with_reducible show wpList _ _ _ (⟨_, .call ⟨.builtin .append, _, _⟩, _, _, _, _⟩ :: _) _ _); refine Stop.mk ?_) | ((with_reducible show wpList _ _ _ (⟨_, .call ⟨.builtin .copy, _, _⟩, _, _, _, _⟩ :: _) _ _); refine Stop.mk ?_)); refine Stop.go (wl_alloc (by rfl) zeroID rfl hm ?_); clear hm; intro b4 w4 hm; simp only [Act.put, List.setIfInBounds_toArray, List.set_cons_zero, List.set_cons_succ]; (try simp only [rowOf_set, List.set_cons_zero, List.set_cons_succ, Value.cells, Act.eval, Array.getD_eq_getD_getElem?, List.getElem?_toArray, List.getElem?_cons_zero, List.getElem?_cons_succ, Option.getD_some] at hm)
  go_wp2_with (first | ((with_reducible show wpList _ _ _ (⟨_, .alloc _, _, _, _, _⟩ :: _) _ _); refine Stop.mk ?_) | ((with_reducible show wpList _ _ _ (⟨_, .box _ _, _, _, _, _⟩ :: _) _ _); refine Stop.mk ?_) | ((with_reducible show wpList _ _ _ (⟨_, .load _ _, _, _, _, _⟩ :: _) _ _); refine Stop.mk ?_) | ((with_reducible show wpList _ _ _ (⟨_, .store _ _ _, _, _, _, _⟩ :: _) _ _); refine Stop.mk ?_) | ((with_reducible show wpList _ _ _ (⟨_, .build _ _, _, _, _, _⟩ :: _) _ _); refine Stop.mk ?_) | ((with_reducible show wpList _ _ _ (⟨_, .buildSlice _ _ _, _, _, _, _⟩ :: _) _ _); refine Stop.mk ?_) | ((with_reducible show wpList _ _ _ (⟨_, .makeSlice _ _ _, _, _, _, _⟩ :: _) _ _); refine Stop.mk ?_) | ((with_reducible show wpList _ _ _ (⟨_, .call ⟨.builtin .append, _, _⟩, _, _, _, _⟩ :: _) _ _); refine Stop.mk ?_) | ((with_reducible show wpList _ _ _ (⟨_, .call ⟨.builtin .copy, _, _⟩, _, _, _, _⟩ :: _) _ _); refine Stop.mk ?_))
  go_loopw [6, 7] (fun c i wr => ∃ k : Nat, k ≤ 20 ∧ i = .int .i64 ((k : Int) - 1) ∧ c = .int .i64 ((carry a b (20 - k) : Nat) : Int) ∧
      Mem w [] [(b4, .cells (rowOf 20 fun j => .int .u8 (if j < k then 0 else ((dig (a + b) j : Nat) : Int))) 23), (b3, .cells (rowOf 20 fun _ => .int .u8 0) 23), (b2, .cells (idC b) 23), (b1, .cells (idC a) 23)] wr)
    (fun _ i _ => (intOf i + 1).toNat)
  case atStart =>
    refine ⟨20, by omega, rfl, by rw [carry_zero]; rfl, ?_⟩
    rw [show (rowOf 20 fun j => Value.int .u8 (if j < 20 then 0 else ((dig (a + b) j : Nat) : Int))) = rowOf 20 fun _ => Value.int .u8 0 from rowOf_congr fun i hi => by rw [if_pos hi]]
    exact hm
  case round =>
    clear hm
    obtain ⟨k, hk, rfl, rfl, hm⟩ := hrel
    by_cases h0 : k = 0
    · subst h0
      go_wp2_with (first | ((with_reducible show wpList _ _ _ (⟨_, .alloc _, _, _, _, _⟩ :: _) _ _); refine Stop.mk ?_) | ((with_reducible show wpList _ _ _ (⟨_, .box _ _, _, _, _, _⟩ :: _) _ _); refine Stop.mk ?_) | ((with_reducible show wpList _ _ _ (⟨_, .load _ _, _, _, _, _⟩ :: _) _ _); refine Stop.mk ?_) | ((with_reducible show wpList _ _ _ (⟨_, .store _ _ _, _, _, _, _⟩ :: _) _ _); refine Stop.mk ?_) | ((with_reducible show wpList _ _ _ (⟨_, .build _ _, _, _, _, _⟩ :: _) _ _); refine Stop.mk ?_) | ((with_reducible show wpList _ _ _ (⟨_, .buildSlice _ _ _, _, _, _, _⟩ :: _) _ _); refine Stop.mk ?_) | ((with_reducible show wpList _ _ _ (⟨_, .makeSlice _ _ _, _, _, _, _⟩ :: _) _ _); refine Stop.mk ?_) | ((with_reducible show wpList _ _ _ (⟨_, .call ⟨.builtin .append, _, _⟩, _, _, _, _⟩ :: _) _ _); refine Stop.mk ?_) | ((with_reducible show wpList _ _ _ (⟨_, .call ⟨.builtin .copy, _, _⟩, _, _, _, _⟩ :: _) _ _); refine Stop.mk ?_)); refine Stop.go (wl_load (i := 0) (by rfl) hm rfl rfl undID rfl (by first | exact sizeID | (simp only [rowOf_size, idC_size]; exact sizeID)) ?_); simp only [Act.put, List.setIfInBounds_toArray, List.set_cons_zero, List.set_cons_succ]; (try simp only [← idV_eq])
      go_wp2_with (first | ((with_reducible show wpList _ _ _ (⟨_, .alloc _, _, _, _, _⟩ :: _) _ _); refine Stop.mk ?_) | ((with_reducible show wpList _ _ _ (⟨_, .box _ _, _, _, _, _⟩ :: _) _ _); refine Stop.mk ?_) | ((with_reducible show wpList _ _ _ (⟨_, .load _ _, _, _, _, _⟩ :: _) _ _); refine Stop.mk ?_) | ((with_reducible show wpList _ _ _ (⟨_, .store _ _ _, _, _, _, _⟩ :: _) _ _); refine Stop.mk ?_) | ((with_reducible show wpList _ _ _ (⟨_, .build _ _, _, _, _, _⟩ :: _) _ _); refine Stop.mk ?_) | ((with_reducible show wpList _ _ _ (⟨_, .buildSlice _ _ _, _, _, _, _⟩ :: _) _ _); refine Stop.mk ?_) | ((with_reducible show wpList _ _ _ (⟨_, .makeSlice _ _ _, _, _, _, _⟩ :: _) _ _); refine Stop.mk ?_) | ((with_reducible show wpList _ _ _ (⟨_, .call ⟨.builtin .append, _, _⟩, _, _, _, _⟩ :: _) _ _); refine Stop.mk ?_) | ((with_reducible show wpList _ _ _ (⟨_, .call ⟨.builtin .copy, _, _⟩, _, _, _, _⟩ :: _) _ _); refine Stop.mk ?_)); refine Stop.go (wl_store (i := 1) (by rfl) hm rfl rfl rfl (by first | rfl | exact idV_eq _) (by first | exact sizeID | (simp only [rowOf_size, idC_size]; exact sizeID)) (by simp only [rowOf_size, idC_size]) (by first | exact rowOf_one _ _ (fun _ _ => rfl) | exact idC_one _ | (exact rowOf_one _ _ (by intro i _; repeat (first | rfl | split)))) ?_); clear hm; intro w5 hm; simp only [Act.put, List.setIfInBounds_toArray, List.set_cons_zero, List.set_cons_succ]; simp only [rowOf_set, List.set_cons_zero, List.set_cons_succ, Value.cells, Act.eval, Array.getD_eq_getD_getElem?, List.getElem?_toArray, List.getElem?_cons_zero, List.getElem?_cons_succ, Option.getD_some] at hm
      go_wp2_with (first | ((with_reducible show wpList _ _ _ (⟨_, .alloc _, _, _, _, _⟩ :: _) _ _); refine Stop.mk ?_) | ((with_reducible show wpList _ _ _ (⟨_, .box _ _, _, _, _, _⟩ :: _) _ _); refine Stop.mk ?_) | ((with_reducible show wpList _ _ _ (⟨_, .load _ _, _, _, _, _⟩ :: _) _ _); refine Stop.mk ?_) | ((with_reducible show wpList _ _ _ (⟨_, .store _ _ _, _, _, _, _⟩ :: _) _ _); refine Stop.mk ?_) | ((with_reducible show wpList _ _ _ (⟨_, .build _ _, _, _, _, _⟩ :: _) _ _); refine Stop.mk ?_) | ((with_reducible show wpList _ _ _ (⟨_, .buildSlice _ _ _, _, _, _, _⟩ :: _) _ _); refine Stop.mk ?_) | ((with_reducible show wpList _ _ _ (⟨_, .makeSlice _ _ _, _, _, _, _⟩ :: _) _ _); refine Stop.mk ?_) | ((with_reducible show wpList _ _ _ (⟨_, .call ⟨.builtin .append, _, _⟩, _, _, _, _⟩ :: _) _ _); refine Stop.mk ?_) | ((with_reducible show wpList _ _ _ (⟨_, .call ⟨.builtin .copy, _, _⟩, _, _, _, _⟩ :: _) _ _); refine Stop.mk ?_)); refine bodyPost_ret (results_cell_row (h := rfl) _ _ b3 _ _ _ _ rfl (hm.heap (i := 1) rfl) undID rfl (by first | exact sizeID | (simp only [rowOf_size, idC_size]; exact sizeID))) rfl ?_
      refine ⟨?_, hm.ext⟩
      rw [idV_eq, idC]
      simp only [Nat.not_lt_zero, if_false]
    · obtain ⟨m, rfl⟩ : ∃ m, k = m + 1 := ⟨k - 1, by omega⟩
      rw [show (((m + 1 : Nat) : Int) - 1) = (m : Int) from by omega]
      have hm20 : (m : Int) < 20 := by omega
      have hm0 : (0 : Int) ≤ (m : Int) := by omega
      rw [show 20 - (m + 1) = 19 - m from by omega]
      have hc1 := carry_le a b (19 - m)
      have ha1 := dig_lt a m
      have hb1 := dig_lt b m
      have q1 : IntKind.i64.wrap ((dig a m : Nat) : Int) = ((dig a m : Nat) : Int) := wrap_i64 (by omega) (by omega)
      have q2 : IntKind.i64.wrap ((dig b m : Nat) : Int) = ((dig b m : Nat) : Int) := wrap_i64 (by omega) (by omega)
      have q3 : IntKind.i64.wrap (((dig a m : Nat) : Int) + ((dig b m : Nat) : Int)) = ((dig a m : Nat) : Int) + ((dig b m : Nat) : Int) := wrap_i64 (by omega) (by omega)
      have q4 : IntKind.i64.wrap (((dig a m : Nat) : Int) + ((dig b m : Nat) : Int) + ((carry a b (19 - m) : Nat) : Int)) = ((dig a m : Nat) : Int) + ((dig b m : Nat) : Int) + ((carry a b (19 - m) : Nat) : Int) := wrap_i64 (by omega) (by omega)
      have HS := hid (carry_step a b m (by omega))
      have HD := hid (dig_add a b m)
      go_wp2_with (first | ((with_reducible show wpList _ _ _ (⟨_, .alloc _, _, _, _, _⟩ :: _) _ _); refine Stop.mk ?_) | ((with_reducible show wpList _ _ _ (⟨_, .box _ _, _, _, _, _⟩ :: _) _ _); refine Stop.mk ?_) | ((with_reducible show wpList _ _ _ (⟨_, .load _ _, _, _, _, _⟩ :: _) _ _); refine Stop.mk ?_) | ((with_reducible show wpList _ _ _ (⟨_, .store _ _ _, _, _, _, _⟩ :: _) _ _); refine Stop.mk ?_) | ((with_reducible show wpList _ _ _ (⟨_, .build _ _, _, _, _, _⟩ :: _) _ _); refine Stop.mk ?_) | ((with_reducible show wpList _ _ _ (⟨_, .buildSlice _ _ _, _, _, _, _⟩ :: _) _ _); refine Stop.mk ?_) | ((with_reducible show wpList _ _ _ (⟨_, .makeSlice _ _ _, _, _, _, _⟩ :: _) _ _); refine Stop.mk ?_) | ((with_reducible show wpList _ _ _ (⟨_, .call ⟨.builtin .append, _, _⟩, _, _, _, _⟩ :: _) _ _); refine Stop.mk ?_) | ((with_reducible show wpList _ _ _ (⟨_, .call ⟨.builtin .copy, _, _⟩, _, _, _, _⟩ :: _) _ _); refine Stop.mk ?_)); refine wp_quiet_mem (by kernel_rfl) (by kernel_rfl) hm ?_
      refine wq_any (by rfl) ?_; apply Exists.intro; refine ⟨?_, ?_⟩; · (intro w hC; go_simp; try with_reducible rfl)
      simp only [Act.put, List.setIfInBounds_toArray, List.set_cons_zero, List.set_cons_succ]
      refine wq_any (by rfl) ?_; apply Exists.intro; refine ⟨?_, ?_⟩; · (intro w hC; go_simp; try with_reducible rfl)
      simp only [Act.put, List.setIfInBounds_toArray, List.set_cons_zero, List.set_cons_succ]
      refine wq_loadCell (i := 3) rfl rfl rfl (rowOf_get _ _ m (by omega)) undByte rfl ?_; simp only [Act.put, List.setIfInBounds_toArray, List.set_cons_zero, List.set_cons_succ]
      refine wq_any (by rfl) ?_; apply Exists.intro; refine ⟨?_, ?_⟩; · (intro w hC; go_simp; try with_reducible rfl)
      simp only [Act.put, List.setIfInBounds_toArray, List.set_cons_zero, List.set_cons_succ]
      refine wq_any (by rfl) ?_; apply Exists.intro; refine ⟨?_, ?_⟩; · (intro w hC; go_simp; try with_reducible rfl)
      simp only [Act.put, List.setIfInBounds_toArray, List.set_cons_zero, List.set_cons_succ]
      refine wq_any (by rfl) ?_; apply Exists.intro; refine ⟨?_, ?_⟩; · (intro w hC; go_simp; try with_reducible rfl)
      simp only [Act.put, List.setIfInBounds_toArray, List.set_cons_zero, List.set_cons_succ]
      refine wq_loadCell (i := 2) rfl rfl rfl (rowOf_get _ _ m (by omega)) undByte rfl ?_; simp only [Act.put, List.setIfInBounds_toArray, List.set_cons_zero, List.set_cons_succ]
      refine wq_any (by rfl) ?_; apply Exists.intro; refine ⟨?_, ?_⟩; · (intro w hC; go_simp; try with_reducible rfl)
      simp only [Act.put, List.setIfInBounds_toArray, List.set_cons_zero, List.set_cons_succ]
      refine wq_any (by rfl) ?_; apply Exists.intro; refine ⟨?_, ?_⟩; · (intro w hC; go_simp; try with_reducible rfl)
      simp only [Act.put, List.setIfInBounds_toArray, List.set_cons_zero, List.set_cons_succ]
      refine wq_any (by rfl) ?_; apply Exists.intro; refine ⟨?_, ?_⟩; · (intro w hC; go_simp; try with_reducible rfl)
      simp only [Act.put, List.setIfInBounds_toArray, List.set_cons_zero, List.set_cons_succ]
      refine wq_any (by rfl) ?_; apply Exists.intro; refine ⟨?_, ?_⟩; · (intro w hC; go_simp; try with_reducible rfl)
      simp only [Act.put, List.setIfInBounds_toArray, List.set_cons_zero, List.set_cons_succ]
      refine wq_any (by rfl) ?_; apply Exists.intro; refine ⟨?_, ?_⟩; · (intro w hC; go_simp; try with_reducible rfl)
      simp only [Act.put, List.setIfInBounds_toArray, List.set_cons_zero, List.set_cons_succ]
      refine wpQuiet_nil ?_; clear hm; intro w5 hm
      go_wp2_with (first | ((with_reducible show wpList _ _ _ (⟨_, .alloc _, _, _, _, _⟩ :: _) _ _); refine Stop.mk ?_) | ((with_reducible show wpList _ _ _ (⟨_, .box _ _, _, _, _, _⟩ :: _) _ _); refine Stop.mk ?_) | ((with_reducible show wpList _ _ _ (⟨_, .load _ _, _, _, _, _⟩ :: _) _ _); refine Stop.mk ?_) | ((with_reducible show wpList _ _ _ (⟨_, .store _ _ _, _, _, _, _⟩ :: _) _ _); refine Stop.mk ?_) | ((with_reducible show wpList _ _ _ (⟨_, .build _ _, _, _, _, _⟩ :: _) _ _); refine Stop.mk ?_) | ((with_reducible show wpList _ _ _ (⟨_, .buildSlice _ _ _, _, _, _, _⟩ :: _) _ _); refine Stop.mk ?_) | ((with_reducible show wpList _ _ _ (⟨_, .makeSlice _ _ _, _, _, _, _⟩ :: _) _ _); refine Stop.mk ?_) | ((with_reducible show wpList _ _ _ (⟨_, .call ⟨.builtin .append, _, _⟩, _, _, _, _⟩ :: _) _ _); refine Stop.mk ?_) | ((with_reducible show wpList _ _ _ (⟨_, .call ⟨.builtin .copy, _, _⟩, _, _, _, _⟩ :: _) _ _); refine Stop.mk ?_)); refine Stop.go (wl_storeCell (i := 0) (by rfl) hm rfl rfl rfl rfl sizeByte (by simp only [rowOf_size, idC_size]; omega) ?_); clear hm; intro w6 hm; simp only [Act.put, List.setIfInBounds_toArray, List.set_cons_zero, List.set_cons_succ]; simp only [rowOf_set, List.set_cons_zero, List.set_cons_succ, Value.cells, Act.eval, Array.getD_eq_getD_getElem?, List.getElem?_toArray, List.getElem?_cons_zero, List.getElem?_cons_succ, Option.getD_some] at hm
      go_wp2_with (first | ((with_reducible show wpList _ _ _ (⟨_, .alloc _, _, _, _, _⟩ :: _) _ _); refine Stop.mk ?_) | ((with_reducible show wpList _ _ _ (⟨_, .box _ _, _, _, _, _⟩ :: _) _ _); refine Stop.mk ?_) | ((with_reducible show wpList _ _ _ (⟨_, .load _ _, _, _, _, _⟩ :: _) _ _); refine Stop.mk ?_) | ((with_reducible show wpList _ _ _ (⟨_, .store _ _ _, _, _, _, _⟩ :: _) _ _); refine Stop.mk ?_) | ((with_reducible show wpList _ _ _ (⟨_, .build _ _, _, _, _, _⟩ :: _) _ _); refine Stop.mk ?_) | ((with_reducible show wpList _ _ _ (⟨_, .buildSlice _ _ _, _, _, _, _⟩ :: _) _ _); refine Stop.mk ?_) | ((with_reducible show wpList _ _ _ (⟨_, .makeSlice _ _ _, _, _, _, _⟩ :: _) _ _); refine Stop.mk ?_) | ((with_reducible show wpList _ _ _ (⟨_, .call ⟨.builtin .append, _, _⟩, _, _, _, _⟩ :: _) _ _); refine Stop.mk ?_) | ((with_reducible show wpList _ _ _ (⟨_, .call ⟨.builtin .copy, _, _⟩, _, _, _, _⟩ :: _) _ _); refine Stop.mk ?_))
      go_roundw
      case rel =>
        refine ⟨m, by omega, rfl, ?_, ?_⟩
        · rw [HS.out]; simp; omega
        · refine Eq.mp ?_ hm
          congr 4
          apply rowOf_congr
          intro j hj
          by_cases hjm : j = m
          · subst hjm
            rw [if_pos rfl, if_neg (by omega), HD.out]; simp; omega
          · rw [if_neg hjm]
            by_cases hlt : j < m
            · rw [if_pos (by omega), if_pos hlt]
            · rw [if_neg (by omega), if_neg hlt]
      case measure => simp [intOf]
end Go.Proofs.Ythanfkopioehcaa
