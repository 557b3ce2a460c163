/-
  Contracts of the functions on places, continued: powers, orders, arcs.
-/
import Derived.Test.YthanfkopioehcaaIdB
namespace Go.Proofs.Ythanfkopioehcaa
open Go.RowKit
set_option linter.unusedSimpArgs false
set_option linter.unusedVariables false
set_option maxHeartbeats 400000
set_option maxRecDepth 20000
attribute [local irreducible] wpQuiet wpList wpAnyH Calls

theorem undInt : Try.prog.underlying 3 = some (.int .i64) := by kernel_rfl

/-! ### Powers -/
theorem dig_pow (k j : Nat) (hk : k < 160) (hj : j < 20) : dig (2 ^ k) j = if j = 19 - k / 8 then 2 ^ (k % 8) else 0 := by
  unfold dig
  have e : (2 : Nat) ^ k = 2 ^ (k % 8) * 256 ^ (k / 8) := by
    rw [show (256 : Nat) = 2 ^ 8 from rfl, ← Nat.pow_mul, ← Nat.pow_add]; congr 1; omega
  have h8 : (2 : Nat) ^ (k % 8) < 256 := by
    have : (2 : Nat) ^ (k % 8) < 2 ^ 8 := Nat.pow_lt_pow_right (by omega) (by omega)
    simpa using this
  rw [e]
  rcases Nat.lt_trichotomy (19 - j) (k / 8) with h | h | h
  · rw [if_neg (by omega), show k / 8 = (19 - j) + (k / 8 - (19 - j) - 1 + 1) from by omega, Nat.pow_add, Nat.pow_succ, ← Nat.mul_assoc, Nat.mul_comm, ← Nat.mul_assoc]
    rw [Nat.mul_div_cancel _ (Nat.pow_pos (by omega))]
    exact Nat.mod_eq_zero_of_dvd ⟨256 ^ (k / 8 - (19 - j) - 1) * 2 ^ (k % 8), by rw [Nat.mul_comm (256 ^ _) 256, Nat.mul_assoc]⟩
  · rw [if_pos (by omega), h, Nat.mul_div_cancel _ (Nat.pow_pos (by omega)), Nat.mod_eq_of_lt h8]
  · rw [if_neg (by omega), Nat.div_eq_of_lt]
    have : 256 ^ (k / 8 + 1) ≤ 256 ^ (19 - j) := Nat.pow_le_pow_right (by omega) (by omega)
    rw [Nat.pow_succ] at this
    have hp : 0 < 256 ^ (k / 8) := Nat.pow_pos (by omega)
    generalize 256 ^ (k / 8) = p at *
    have : 2 ^ (k % 8) * p < 256 * p := Nat.mul_lt_mul_of_pos_right h8 hp
    omega

theorem power_bad (k : Int) (h : k < 0 ∨ 160 ≤ k) (w : World) :
    Calls Try.prog 9 #[.int .i64 k] w fun e w' => e = .returned (.tuple #[idV 0, .int .i64 1]) ∧ Ext w w' := by
  have hz : idV 0 = .agg (rowOf 20 fun _ => .int .u8 0) := by rw [idV_eq, idC]; congr 1; apply rowOf_congr; intro i _; simp [dig]
  by_cases hk : k < 0
  all_goals
    (try have h160 : 160 ≤ k := by omega)
    go_enter Try.func9, Try.ntmps9
    have hm := Mem.refl w []
    go_wp2_with (first | ((with_reducible show wpList _ _ _ (⟨_, .alloc _, _, _, _, _⟩ :: _) _ _); refine Stop.mk ?_) | ((with_reducible show wpList _ _ _ (⟨_, .box _ _, _, _, _, _⟩ :: _) _ _); refine Stop.mk ?_) | ((with_reducible show wpList _ _ _ (⟨_, .load _ _, _, _, _, _⟩ :: _) _ _); refine Stop.mk ?_) | ((with_reducible show wpList _ _ _ (⟨_, .store _ _ _, _, _, _, _⟩ :: _) _ _); refine Stop.mk ?_) | ((with_reducible show wpList _ _ _ (⟨_, .build _ _, _, _, _, _⟩ :: _) _ _); refine Stop.mk ?_) | ((with_reducible show wpList _ _ _ (⟨_, .buildSlice _ _ _, _, _, _, _⟩ :: _) _ _); refine Stop.mk ?_) | ((with_reducible show wpList _ _ _ (⟨_, .makeSlice _ _ _, _, _, _, _⟩ :: _) _ _); refine Stop.mk ?_) | ((with_reducible show wpList _ _ _ (⟨_, .call ⟨.builtin .append, _, _⟩, _, _, _, _⟩ :: _) _ _); refine Stop.mk ?_) | ((with_reducible show wpList _ _ _ (⟨_, .call ⟨.builtin .copy, _, _⟩, _, _, _, _⟩ :: _) _ _); refine Stop.mk ?_)); refine Stop.go (wl_alloc (by rfl) zeroID rfl hm ?_); clear hm; intro b1 w1 hm; simp only [Act.put, List.setIfInBounds_toArray, List.set_cons_zero, List.set_cons_succ]; (try simp only [rowOf_set, List.set_cons_zero, List.set_cons_succ, Value.cells, Act.eval, Array.getD_eq_getD_getElem?, List.getElem?_toArray, List.getElem?_cons_zero, List.getElem?_cons_succ, Option.getD_some] at hm)
    go_wp2_with (first | ((with_reducible show wpList _ _ _ (⟨_, .alloc _, _, _, _, _⟩ :: _) _ _); refine Stop.mk ?_) | ((with_reducible show wpList _ _ _ (⟨_, .box _ _, _, _, _, _⟩ :: _) _ _); refine Stop.mk ?_) | ((with_reducible show wpList _ _ _ (⟨_, .load _ _, _, _, _, _⟩ :: _) _ _); refine Stop.mk ?_) | ((with_reducible show wpList _ _ _ (⟨_, .store _ _ _, _, _, _, _⟩ :: _) _ _); refine Stop.mk ?_) | ((with_reducible show wpList _ _ _ (⟨_, .build _ _, _, _, _, _⟩ :: _) _ _); refine Stop.mk ?_) | ((with_reducible show wpList _ _ _ (⟨_, .buildSlice _ _ _, _, _, _, _⟩ :: _) _ _); refine Stop.mk ?_) | ((with_reducible show wpList _ _ _ (⟨_, .makeSlice _ _ _, _, _, _, _⟩ :: _) _ _); refine Stop.mk ?_) | ((with_reducible show wpList _ _ _ (⟨_, .call ⟨.builtin .append, _, _⟩, _, _, _, _⟩ :: _) _ _); refine Stop.mk ?_) | ((with_reducible show wpList _ _ _ (⟨_, .call ⟨.builtin .copy, _, _⟩, _, _, _, _⟩ :: _) _ _); refine Stop.mk ?_)); refine Stop.go (wl_alloc (by rfl) zeroID rfl hm ?_); clear hm; intro b2 w2 hm; simp only [Act.put, List.setIfInBounds_toArray, List.set_cons_zero, List.set_cons_succ]; (try simp only [rowOf_set, List.set_cons_zero, List.set_cons_succ, Value.cells, Act.eval, Array.getD_eq_getD_getElem?, List.getElem?_toArray, List.getElem?_cons_zero, List.getElem?_cons_succ, Option.getD_some] at hm)
    go_wp2_with (first | ((with_reducible show wpList _ _ _ (⟨_, .alloc _, _, _, _, _⟩ :: _) _ _); refine Stop.mk ?_) | ((with_reducible show wpList _ _ _ (⟨_, .box _ _, _, _, _, _⟩ :: _) _ _); refine Stop.mk ?_) | ((with_reducible show wpList _ _ _ (⟨_, .load _ _, _, _, _, _⟩ :: _) _ _); refine Stop.mk ?_) | ((with_reducible show wpList _ _ _ (⟨_, .store _ _ _, _, _, _, _⟩ :: _) _ _); refine Stop.mk ?_) | ((with_reducible show wpList _ _ _ (⟨_, .build _ _, _, _, _, _⟩ :: _) _ _); refine Stop.mk ?_) | ((with_reducible show wpList _ _ _ (⟨_, .buildSlice _ _ _, _, _, _, _⟩ :: _) _ _); refine Stop.mk ?_) | ((with_reducible show wpList _ _ _ (⟨_, .makeSlice _ _ _, _, _, _, _⟩ :: _) _ _); refine Stop.mk ?_) | ((with_reducible show wpList _ _ _ (⟨_, .call ⟨.builtin .append, _, _⟩, _, _, _, _⟩ :: _) _ _); refine Stop.mk ?_) | ((with_reducible show wpList _ _ _ (⟨_, .call ⟨.builtin .copy, _, _⟩, _, _, _, _⟩ :: _) _ _); refine Stop.mk ?_)); refine Stop.go (wl_load (i := 0) (by rfl) hm rfl rfl undID rfl (by first | exact sizeID | (simp only [rowOf_size, idC_size]; exact sizeID)) ?_); simp only [Act.put, List.setIfInBounds_toArray, List.set_cons_zero, List.set_cons_succ]; (try simp only [← idV_eq])
    go_wp2_with (first | ((with_reducible show wpList _ _ _ (⟨_, .alloc _, _, _, _, _⟩ :: _) _ _); refine Stop.mk ?_) | ((with_reducible show wpList _ _ _ (⟨_, .box _ _, _, _, _, _⟩ :: _) _ _); refine Stop.mk ?_) | ((with_reducible show wpList _ _ _ (⟨_, .load _ _, _, _, _, _⟩ :: _) _ _); refine Stop.mk ?_) | ((with_reducible show wpList _ _ _ (⟨_, .store _ _ _, _, _, _, _⟩ :: _) _ _); refine Stop.mk ?_) | ((with_reducible show wpList _ _ _ (⟨_, .build _ _, _, _, _, _⟩ :: _) _ _); refine Stop.mk ?_) | ((with_reducible show wpList _ _ _ (⟨_, .buildSlice _ _ _, _, _, _, _⟩ :: _) _ _); refine Stop.mk ?_) | ((with_reducible show wpList _ _ _ (⟨_, .makeSlice _ _ _, _, _, _, _⟩ :: _) _ _); refine Stop.mk ?_) | ((with_reducible show wpList _ _ _ (⟨_, .call ⟨.builtin .append, _, _⟩, _, _, _, _⟩ :: _) _ _); refine Stop.mk ?_) | ((with_reducible show wpList _ _ _ (⟨_, .call ⟨.builtin .copy, _, _⟩, _, _, _, _⟩ :: _) _ _); refine Stop.mk ?_)); refine Stop.go (wl_store (i := 1) (by rfl) hm rfl rfl rfl (by first | rfl | exact idV_eq _) (by first | exact sizeID | (simp only [rowOf_size, idC_size]; exact sizeID)) (by simp only [rowOf_size, idC_size]) (by first | exact rowOf_one _ _ (fun _ _ => rfl) | exact idC_one _ | (exact rowOf_one _ _ (by intro i _; repeat (first | rfl | split)))) ?_); clear hm; intro w3 hm; simp only [Act.put, List.setIfInBounds_toArray, List.set_cons_zero, List.set_cons_succ]; simp only [rowOf_set, List.set_cons_zero, List.set_cons_succ, Value.cells, Act.eval, Array.getD_eq_getD_getElem?, List.getElem?_toArray, List.getElem?_cons_zero, List.getElem?_cons_succ, Option.getD_some] at hm
    go_wp2_with (first | ((with_reducible show wpList _ _ _ (⟨_, .alloc _, _, _, _, _⟩ :: _) _ _); refine Stop.mk ?_) | ((with_reducible show wpList _ _ _ (⟨_, .box _ _, _, _, _, _⟩ :: _) _ _); refine Stop.mk ?_) | ((with_reducible show wpList _ _ _ (⟨_, .load _ _, _, _, _, _⟩ :: _) _ _); refine Stop.mk ?_) | ((with_reducible show wpList _ _ _ (⟨_, .store _ _ _, _, _, _, _⟩ :: _) _ _); refine Stop.mk ?_) | ((with_reducible show wpList _ _ _ (⟨_, .build _ _, _, _, _, _⟩ :: _) _ _); refine Stop.mk ?_) | ((with_reducible show wpList _ _ _ (⟨_, .buildSlice _ _ _, _, _, _, _⟩ :: _) _ _); refine Stop.mk ?_) | ((with_reducible show wpList _ _ _ (⟨_, .makeSlice _ _ _, _, _, _, _⟩ :: _) _ _); refine Stop.mk ?_) | ((with_reducible show wpList _ _ _ (⟨_, .call ⟨.builtin .append, _, _⟩, _, _, _, _⟩ :: _) _ _); refine Stop.mk ?_) | ((with_reducible show wpList _ _ _ (⟨_, .call ⟨.builtin .copy, _, _⟩, _, _, _, _⟩ :: _) _ _); refine Stop.mk ?_)); refine bodyPost_ret (results_row_tmp (h := rfl) _ _ b1 _ _ _ _ rfl (hm.heap (i := 1) rfl) undID rfl (by first | exact sizeID | (simp only [rowOf_size, idC_size]; exact sizeID))) rfl ?_
    exact ⟨by rw [hz]; rfl, hm.ext⟩

theorem pow_u8 (r : Nat) (h : r < 8) : (2 : Int) ^ r % 256 = ((2 ^ r : Nat) : Int) := by
  have : (2 : Nat) ^ r ≤ 2 ^ 7 := Nat.pow_le_pow_right (by omega) (by omega)
  have e : (2 : Int) ^ r = ((2 ^ r : Nat) : Int) := by simp
  rw [e]
  generalize 2 ^ r = p at *
  omega

theorem pow_row (k : Nat) (h : k < 160) : (rowOf 20 fun j => if j = 19 - k / 8 then Value.int .u8 ((2 : Int) ^ (k % 8) % 256) else .int .u8 0) = idC (2 ^ k) := by
  rw [idC]
  apply rowOf_congr
  intro i hi
  rw [dig_pow k i h hi]
  split
  · rw [pow_u8 _ (by omega)]
  · rfl

theorem power_good (k : Nat) (h : k < 160) (w : World) :
    Calls Try.prog 9 #[.int .i64 (k : Int)] w fun e w' => e = .returned (.tuple #[idV (2 ^ k), .int .i64 0]) ∧ Ext w w' := by
  have h0 : (0 : Int) ≤ (k : Int) := by omega
  have h160 : (k : Int) < 160 := by omega
  have g1 : (0 : Int) ≤ (k : Int) % 8 := by omega
  have g2 : (k : Int) % 8 ≤ 8 := by omega
  have g3 : ((k : Int) % 8).toNat = k % 8 := by omega
  have g4 : (19 - (k : Int) / 8).toNat = 19 - k / 8 := by omega
  go_enter Try.func9, Try.ntmps9
  have hm := Mem.refl w []
  go_wp2_with (first | ((with_reducible show wpList _ _ _ (⟨_, .alloc _, _, _, _, _⟩ :: _) _ _); refine Stop.mk ?_) | ((with_reducible show wpList _ _ _ (⟨_, .box _ _, _, _, _, _⟩ :: _) _ _); refine Stop.mk ?_) | ((with_reducible show wpList _ _ _ (⟨_, .load _ _, _, _, _, _⟩ :: _) _ _); refine Stop.mk ?_) | ((with_reducible show wpList _ _ _ (⟨_, .store _ _ _, _, _, _, _⟩ :: _) _ _); refine Stop.mk ?_) | ((with_reducible show wpList _ _ _ (⟨_, .build _ _, _, _, _, _⟩ :: _) _ _); refine Stop.mk ?_) | ((with_reducible show wpList _ _ _ (⟨_, .buildSlice _ _ _, _, _, _, _⟩ :: _) _ _); refine Stop.mk ?_) | ((with_reducible show wpList _ _ _ (⟨_, .makeSlice _ _ _, _, _, _, _⟩ :: _) _ _); refine Stop.mk ?_) | ((with_reducible show wpList _ _ _ (⟨_, .call ⟨.builtin .append, _, _⟩, _, _, _, _⟩ :: _) _ _); refine Stop.mk ?_) | ((with_reducible show wpList _ _ _ (⟨_, .call ⟨.builtin .copy, _, _⟩, _, _, _, _⟩ :: _) _ _); refine Stop.mk ?_)); refine Stop.go (wl_alloc (by rfl) zeroID rfl hm ?_); clear hm; intro b1 w1 hm; simp only [Act.put, List.setIfInBounds_toArray, List.set_cons_zero, List.set_cons_succ]; (try simp only [rowOf_set, List.set_cons_zero, List.set_cons_succ, Value.cells, Act.eval, Array.getD_eq_getD_getElem?, List.getElem?_toArray, List.getElem?_cons_zero, List.getElem?_cons_succ, Option.getD_some] at hm)
  go_wp2_with (first | ((with_reducible show wpList _ _ _ (⟨_, .alloc _, _, _, _, _⟩ :: _) _ _); refine Stop.mk ?_) | ((with_reducible show wpList _ _ _ (⟨_, .box _ _, _, _, _, _⟩ :: _) _ _); refine Stop.mk ?_) | ((with_reducible show wpList _ _ _ (⟨_, .load _ _, _, _, _, _⟩ :: _) _ _); refine Stop.mk ?_) | ((with_reducible show wpList _ _ _ (⟨_, .store _ _ _, _, _, _, _⟩ :: _) _ _); refine Stop.mk ?_) | ((with_reducible show wpList _ _ _ (⟨_, .build _ _, _, _, _, _⟩ :: _) _ _); refine Stop.mk ?_) | ((with_reducible show wpList _ _ _ (⟨_, .buildSlice _ _ _, _, _, _, _⟩ :: _) _ _); refine Stop.mk ?_) | ((with_reducible show wpList _ _ _ (⟨_, .makeSlice _ _ _, _, _, _, _⟩ :: _) _ _); refine Stop.mk ?_) | ((with_reducible show wpList _ _ _ (⟨_, .call ⟨.builtin .append, _, _⟩, _, _, _, _⟩ :: _) _ _); refine Stop.mk ?_) | ((with_reducible show wpList _ _ _ (⟨_, .call ⟨.builtin .copy, _, _⟩, _, _, _, _⟩ :: _) _ _); refine Stop.mk ?_)); refine Stop.go (wl_alloc (by rfl) zeroID rfl hm ?_); clear hm; intro b2 w2 hm; simp only [Act.put, List.setIfInBounds_toArray, List.set_cons_zero, List.set_cons_succ]; (try simp only [rowOf_set, List.set_cons_zero, List.set_cons_succ, Value.cells, Act.eval, Array.getD_eq_getD_getElem?, List.getElem?_toArray, List.getElem?_cons_zero, List.getElem?_cons_succ, Option.getD_some] at hm)
  go_wp2_with (first | ((with_reducible show wpList _ _ _ (⟨_, .alloc _, _, _, _, _⟩ :: _) _ _); refine Stop.mk ?_) | ((with_reducible show wpList _ _ _ (⟨_, .box _ _, _, _, _, _⟩ :: _) _ _); refine Stop.mk ?_) | ((with_reducible show wpList _ _ _ (⟨_, .load _ _, _, _, _, _⟩ :: _) _ _); refine Stop.mk ?_) | ((with_reducible show wpList _ _ _ (⟨_, .store _ _ _, _, _, _, _⟩ :: _) _ _); refine Stop.mk ?_) | ((with_reducible show wpList _ _ _ (⟨_, .build _ _, _, _, _, _⟩ :: _) _ _); refine Stop.mk ?_) | ((with_reducible show wpList _ _ _ (⟨_, .buildSlice _ _ _, _, _, _, _⟩ :: _) _ _); refine Stop.mk ?_) | ((with_reducible show wpList _ _ _ (⟨_, .makeSlice _ _ _, _, _, _, _⟩ :: _) _ _); refine Stop.mk ?_) | ((with_reducible show wpList _ _ _ (⟨_, .call ⟨.builtin .append, _, _⟩, _, _, _, _⟩ :: _) _ _); refine Stop.mk ?_) | ((with_reducible show wpList _ _ _ (⟨_, .call ⟨.builtin .copy, _, _⟩, _, _, _, _⟩ :: _) _ _); refine Stop.mk ?_)); refine Stop.go (wl_storeCell (i := 0) (by rfl) hm rfl rfl rfl rfl sizeByte (by simp only [rowOf_size, idC_size]; omega) ?_); clear hm; intro w3 hm; simp only [Act.put, List.setIfInBounds_toArray, List.set_cons_zero, List.set_cons_succ]; simp only [rowOf_set, List.set_cons_zero, List.set_cons_succ, Value.cells, Act.eval, Array.getD_eq_getD_getElem?, List.getElem?_toArray, List.getElem?_cons_zero, List.getElem?_cons_succ, Option.getD_some] at hm
  rw [pow_row k h] at hm
  go_wp2_with (first | ((with_reducible show wpList _ _ _ (⟨_, .alloc _, _, _, _, _⟩ :: _) _ _); refine Stop.mk ?_) | ((with_reducible show wpList _ _ _ (⟨_, .box _ _, _, _, _, _⟩ :: _) _ _); refine Stop.mk ?_) | ((with_reducible show wpList _ _ _ (⟨_, .load _ _, _, _, _, _⟩ :: _) _ _); refine Stop.mk ?_) | ((with_reducible show wpList _ _ _ (⟨_, .store _ _ _, _, _, _, _⟩ :: _) _ _); refine Stop.mk ?_) | ((with_reducible show wpList _ _ _ (⟨_, .build _ _, _, _, _, _⟩ :: _) _ _); refine Stop.mk ?_) | ((with_reducible show wpList _ _ _ (⟨_, .buildSlice _ _ _, _, _, _, _⟩ :: _) _ _); refine Stop.mk ?_) | ((with_reducible show wpList _ _ _ (⟨_, .makeSlice _ _ _, _, _, _, _⟩ :: _) _ _); refine Stop.mk ?_) | ((with_reducible show wpList _ _ _ (⟨_, .call ⟨.builtin .append, _, _⟩, _, _, _, _⟩ :: _) _ _); refine Stop.mk ?_) | ((with_reducible show wpList _ _ _ (⟨_, .call ⟨.builtin .copy, _, _⟩, _, _, _, _⟩ :: _) _ _); refine Stop.mk ?_)); refine Stop.go (wl_load (i := 0) (by rfl) hm rfl rfl undID rfl (by first | exact sizeID | (simp only [rowOf_size, idC_size]; exact sizeID)) ?_); simp only [Act.put, List.setIfInBounds_toArray, List.set_cons_zero, List.set_cons_succ]; (try simp only [← idV_eq])
  go_wp2_with (first | ((with_reducible show wpList _ _ _ (⟨_, .alloc _, _, _, _, _⟩ :: _) _ _); refine Stop.mk ?_) | ((with_reducible show wpList _ _ _ (⟨_, .box _ _, _, _, _, _⟩ :: _) _ _); refine Stop.mk ?_) | ((with_reducible show wpList _ _ _ (⟨_, .load _ _, _, _, _, _⟩ :: _) _ _); refine Stop.mk ?_) | ((with_reducible show wpList _ _ _ (⟨_, .store _ _ _, _, _, _, _⟩ :: _) _ _); refine Stop.mk ?_) | ((with_reducible show wpList _ _ _ (⟨_, .build _ _, _, _, _, _⟩ :: _) _ _); refine Stop.mk ?_) | ((with_reducible show wpList _ _ _ (⟨_, .buildSlice _ _ _, _, _, _, _⟩ :: _) _ _); refine Stop.mk ?_) | ((with_reducible show wpList _ _ _ (⟨_, .makeSlice _ _ _, _, _, _, _⟩ :: _) _ _); refine Stop.mk ?_) | ((with_reducible show wpList _ _ _ (⟨_, .call ⟨.builtin .append, _, _⟩, _, _, _, _⟩ :: _) _ _); refine Stop.mk ?_) | ((with_reducible show wpList _ _ _ (⟨_, .call ⟨.builtin .copy, _, _⟩, _, _, _, _⟩ :: _) _ _); refine Stop.mk ?_)); refine Stop.go (wl_store (i := 1) (by rfl) hm rfl rfl rfl (by first | rfl | exact idV_eq _) (by first | exact sizeID | (simp only [rowOf_size, idC_size]; exact sizeID)) (by simp only [rowOf_size, idC_size]) (by first | exact rowOf_one _ _ (fun _ _ => rfl) | exact idC_one _ | (exact rowOf_one _ _ (by intro i _; repeat (first | rfl | split)))) ?_); clear hm; intro w4 hm; simp only [Act.put, List.setIfInBounds_toArray, List.set_cons_zero, List.set_cons_succ]; simp only [rowOf_set, List.set_cons_zero, List.set_cons_succ, Value.cells, Act.eval, Array.getD_eq_getD_getElem?, List.getElem?_toArray, List.getElem?_cons_zero, List.getElem?_cons_succ, Option.getD_some] at hm
  go_wp2_with (first | ((with_reducible show wpList _ _ _ (⟨_, .alloc _, _, _, _, _⟩ :: _) _ _); refine Stop.mk ?_) | ((with_reducible show wpList _ _ _ (⟨_, .box _ _, _, _, _, _⟩ :: _) _ _); refine Stop.mk ?_) | ((with_reducible show wpList _ _ _ (⟨_, .load _ _, _, _, _, _⟩ :: _) _ _); refine Stop.mk ?_) | ((with_reducible show wpList _ _ _ (⟨_, .store _ _ _, _, _, _, _⟩ :: _) _ _); refine Stop.mk ?_) | ((with_reducible show wpList _ _ _ (⟨_, .build _ _, _, _, _, _⟩ :: _) _ _); refine Stop.mk ?_) | ((with_reducible show wpList _ _ _ (⟨_, .buildSlice _ _ _, _, _, _, _⟩ :: _) _ _); refine Stop.mk ?_) | ((with_reducible show wpList _ _ _ (⟨_, .makeSlice _ _ _, _, _, _, _⟩ :: _) _ _); refine Stop.mk ?_) | ((with_reducible show wpList _ _ _ (⟨_, .call ⟨.builtin .append, _, _⟩, _, _, _, _⟩ :: _) _ _); refine Stop.mk ?_) | ((with_reducible show wpList _ _ _ (⟨_, .call ⟨.builtin .copy, _, _⟩, _, _, _, _⟩ :: _) _ _); refine Stop.mk ?_)); refine bodyPost_ret (results_row_tmp (h := rfl) _ _ b1 _ _ _ _ rfl (hm.heap (i := 1) rfl) undID rfl (by first | exact sizeID | (simp only [rowOf_size, idC_size]; exact sizeID))) rfl ?_
  exact ⟨by rw [idV_eq]; rfl, hm.ext⟩

theorem refPower_bad (k : Int) (h : k < 0 ∨ 160 ≤ k) (w : World) :
    Calls Try.prog 10 #[.int .i64 k] w fun e w' => e = .returned (.tuple #[idV 0, .int .i64 1]) ∧ Ext w w' := by
  have hz : idV 0 = .agg (rowOf 20 fun _ => .int .u8 0) := by rw [idV_eq, idC]; congr 1; apply rowOf_congr; intro i _; simp [dig]
  by_cases hk : k < 0
  all_goals
    (try have h160 : 160 ≤ k := by omega)
    go_enter Try.func10, Try.ntmps10
    have hm := Mem.refl w []
    go_wp2_with (first | ((with_reducible show wpList _ _ _ (⟨_, .alloc _, _, _, _, _⟩ :: _) _ _); refine Stop.mk ?_) | ((with_reducible show wpList _ _ _ (⟨_, .box _ _, _, _, _, _⟩ :: _) _ _); refine Stop.mk ?_) | ((with_reducible show wpList _ _ _ (⟨_, .load _ _, _, _, _, _⟩ :: _) _ _); refine Stop.mk ?_) | ((with_reducible show wpList _ _ _ (⟨_, .store _ _ _, _, _, _, _⟩ :: _) _ _); refine Stop.mk ?_) | ((with_reducible show wpList _ _ _ (⟨_, .build _ _, _, _, _, _⟩ :: _) _ _); refine Stop.mk ?_) | ((with_reducible show wpList _ _ _ (⟨_, .buildSlice _ _ _, _, _, _, _⟩ :: _) _ _); refine Stop.mk ?_) | ((with_reducible show wpList _ _ _ (⟨_, .makeSlice _ _ _, _, _, _, _⟩ :: _) _ _); refine Stop.mk ?_) | ((with_reducible show wpList _ _ _ (⟨_, .call ⟨.builtin .append, _, _⟩, _, _, _, _⟩ :: _) _ _); refine Stop.mk ?_) | ((with_reducible show wpList _ _ _ (⟨_, .call ⟨.builtin .copy, _, _⟩, _, _, _, _⟩ :: _) _ _); refine Stop.mk ?_)); refine Stop.go (wl_alloc (by rfl) zeroID rfl hm ?_); clear hm; intro b1 w1 hm; simp only [Act.put, List.setIfInBounds_toArray, List.set_cons_zero, List.set_cons_succ]; (try simp only [rowOf_set, List.set_cons_zero, List.set_cons_succ, Value.cells, Act.eval, Array.getD_eq_getD_getElem?, List.getElem?_toArray, List.getElem?_cons_zero, List.getElem?_cons_succ, Option.getD_some] at hm)
    go_wp2_with (first | ((with_reducible show wpList _ _ _ (⟨_, .alloc _, _, _, _, _⟩ :: _) _ _); refine Stop.mk ?_) | ((with_reducible show wpList _ _ _ (⟨_, .box _ _, _, _, _, _⟩ :: _) _ _); refine Stop.mk ?_) | ((with_reducible show wpList _ _ _ (⟨_, .load _ _, _, _, _, _⟩ :: _) _ _); refine Stop.mk ?_) | ((with_reducible show wpList _ _ _ (⟨_, .store _ _ _, _, _, _, _⟩ :: _) _ _); refine Stop.mk ?_) | ((with_reducible show wpList _ _ _ (⟨_, .build _ _, _, _, _, _⟩ :: _) _ _); refine Stop.mk ?_) | ((with_reducible show wpList _ _ _ (⟨_, .buildSlice _ _ _, _, _, _, _⟩ :: _) _ _); refine Stop.mk ?_) | ((with_reducible show wpList _ _ _ (⟨_, .makeSlice _ _ _, _, _, _, _⟩ :: _) _ _); refine Stop.mk ?_) | ((with_reducible show wpList _ _ _ (⟨_, .call ⟨.builtin .append, _, _⟩, _, _, _, _⟩ :: _) _ _); refine Stop.mk ?_) | ((with_reducible show wpList _ _ _ (⟨_, .call ⟨.builtin .copy, _, _⟩, _, _, _, _⟩ :: _) _ _); refine Stop.mk ?_)); refine Stop.go (wl_alloc (by rfl) zeroID rfl hm ?_); clear hm; intro b2 w2 hm; simp only [Act.put, List.setIfInBounds_toArray, List.set_cons_zero, List.set_cons_succ]; (try simp only [rowOf_set, List.set_cons_zero, List.set_cons_succ, Value.cells, Act.eval, Array.getD_eq_getD_getElem?, List.getElem?_toArray, List.getElem?_cons_zero, List.getElem?_cons_succ, Option.getD_some] at hm)
    go_wp2_with (first | ((with_reducible show wpList _ _ _ (⟨_, .alloc _, _, _, _, _⟩ :: _) _ _); refine Stop.mk ?_) | ((with_reducible show wpList _ _ _ (⟨_, .box _ _, _, _, _, _⟩ :: _) _ _); refine Stop.mk ?_) | ((with_reducible show wpList _ _ _ (⟨_, .load _ _, _, _, _, _⟩ :: _) _ _); refine Stop.mk ?_) | ((with_reducible show wpList _ _ _ (⟨_, .store _ _ _, _, _, _, _⟩ :: _) _ _); refine Stop.mk ?_) | ((with_reducible show wpList _ _ _ (⟨_, .build _ _, _, _, _, _⟩ :: _) _ _); refine Stop.mk ?_) | ((with_reducible show wpList _ _ _ (⟨_, .buildSlice _ _ _, _, _, _, _⟩ :: _) _ _); refine Stop.mk ?_) | ((with_reducible show wpList _ _ _ (⟨_, .makeSlice _ _ _, _, _, _, _⟩ :: _) _ _); refine Stop.mk ?_) | ((with_reducible show wpList _ _ _ (⟨_, .call ⟨.builtin .append, _, _⟩, _, _, _, _⟩ :: _) _ _); refine Stop.mk ?_) | ((with_reducible show wpList _ _ _ (⟨_, .call ⟨.builtin .copy, _, _⟩, _, _, _, _⟩ :: _) _ _); refine Stop.mk ?_)); refine Stop.go (wl_load (i := 0) (by rfl) hm rfl rfl undID rfl (by first | exact sizeID | (simp only [rowOf_size, idC_size]; exact sizeID)) ?_); simp only [Act.put, List.setIfInBounds_toArray, List.set_cons_zero, List.set_cons_succ]; (try simp only [← idV_eq])
    go_wp2_with (first | ((with_reducible show wpList _ _ _ (⟨_, .alloc _, _, _, _, _⟩ :: _) _ _); refine Stop.mk ?_) | ((with_reducible show wpList _ _ _ (⟨_, .box _ _, _, _, _, _⟩ :: _) _ _); refine Stop.mk ?_) | ((with_reducible show wpList _ _ _ (⟨_, .load _ _, _, _, _, _⟩ :: _) _ _); refine Stop.mk ?_) | ((with_reducible show wpList _ _ _ (⟨_, .store _ _ _, _, _, _, _⟩ :: _) _ _); refine Stop.mk ?_) | ((with_reducible show wpList _ _ _ (⟨_, .build _ _, _, _, _, _⟩ :: _) _ _); refine Stop.mk ?_) | ((with_reducible show wpList _ _ _ (⟨_, .buildSlice _ _ _, _, _, _, _⟩ :: _) _ _); refine Stop.mk ?_) | ((with_reducible show wpList _ _ _ (⟨_, .makeSlice _ _ _, _, _, _, _⟩ :: _) _ _); refine Stop.mk ?_) | ((with_reducible show wpList _ _ _ (⟨_, .call ⟨.builtin .append, _, _⟩, _, _, _, _⟩ :: _) _ _); refine Stop.mk ?_) | ((with_reducible show wpList _ _ _ (⟨_, .call ⟨.builtin .copy, _, _⟩, _, _, _, _⟩ :: _) _ _); refine Stop.mk ?_)); refine Stop.go (wl_store (i := 1) (by rfl) hm rfl rfl rfl (by first | rfl | exact idV_eq _) (by first | exact sizeID | (simp only [rowOf_size, idC_size]; exact sizeID)) (by simp only [rowOf_size, idC_size]) (by first | exact rowOf_one _ _ (fun _ _ => rfl) | exact idC_one _ | (exact rowOf_one _ _ (by intro i _; repeat (first | rfl | split)))) ?_); clear hm; intro w3 hm; simp only [Act.put, List.setIfInBounds_toArray, List.set_cons_zero, List.set_cons_succ]; simp only [rowOf_set, List.set_cons_zero, List.set_cons_succ, Value.cells, Act.eval, Array.getD_eq_getD_getElem?, List.getElem?_toArray, List.getElem?_cons_zero, List.getElem?_cons_succ, Option.getD_some] at hm
    go_wp2_with (first | ((with_reducible show wpList _ _ _ (⟨_, .alloc _, _, _, _, _⟩ :: _) _ _); refine Stop.mk ?_) | ((with_reducible show wpList _ _ _ (⟨_, .box _ _, _, _, _, _⟩ :: _) _ _); refine Stop.mk ?_) | ((with_reducible show wpList _ _ _ (⟨_, .load _ _, _, _, _, _⟩ :: _) _ _); refine Stop.mk ?_) | ((with_reducible show wpList _ _ _ (⟨_, .store _ _ _, _, _, _, _⟩ :: _) _ _); refine Stop.mk ?_) | ((with_reducible show wpList _ _ _ (⟨_, .build _ _, _, _, _, _⟩ :: _) _ _); refine Stop.mk ?_) | ((with_reducible show wpList _ _ _ (⟨_, .buildSlice _ _ _, _, _, _, _⟩ :: _) _ _); refine Stop.mk ?_) | ((with_reducible show wpList _ _ _ (⟨_, .makeSlice _ _ _, _, _, _, _⟩ :: _) _ _); refine Stop.mk ?_) | ((with_reducible show wpList _ _ _ (⟨_, .call ⟨.builtin .append, _, _⟩, _, _, _, _⟩ :: _) _ _); refine Stop.mk ?_) | ((with_reducible show wpList _ _ _ (⟨_, .call ⟨.builtin .copy, _, _⟩, _, _, _, _⟩ :: _) _ _); refine Stop.mk ?_)); refine bodyPost_ret (results_row_tmp (h := rfl) _ _ b1 _ _ _ _ rfl (hm.heap (i := 1) rfl) undID rfl (by first | exact sizeID | (simp only [rowOf_size, idC_size]; exact sizeID))) rfl ?_
    exact ⟨by rw [hz]; rfl, hm.ext⟩

theorem refPower_good (k : Nat) (h : k < 160) (w : World) :
    Calls Try.prog 10 #[.int .i64 (k : Int)] w fun e w' => e = .returned (.tuple #[idV (2 ^ k), .int .i64 0]) ∧ Ext w w' := by
  have h0 : (0 : Int) ≤ (k : Int) := by omega
  have h160 : (k : Int) < 160 := by omega
  have g4 : (19 - (k : Int) / 8).toNat = 19 - k / 8 := by omega
  have g5 : ((k % 8 : Nat) : Int) = (k : Int) % 8 := by omega
  have g6 : k % 8 < 8 := Nat.mod_lt _ (by omega)
  have HR := hid g5
  clear g5
  go_enter Try.func10, Try.ntmps10
  have hm := Mem.refl w []
  go_wp2_with (first | ((with_reducible show wpList _ _ _ (⟨_, .alloc _, _, _, _, _⟩ :: _) _ _); refine Stop.mk ?_) | ((with_reducible show wpList _ _ _ (⟨_, .box _ _, _, _, _, _⟩ :: _) _ _); refine Stop.mk ?_) | ((with_reducible show wpList _ _ _ (⟨_, .load _ _, _, _, _, _⟩ :: _) _ _); refine Stop.mk ?_) | ((with_reducible show wpList _ _ _ (⟨_, .store _ _ _, _, _, _, _⟩ :: _) _ _); refine Stop.mk ?_) | ((with_reducible show wpList _ _ _ (⟨_, .build _ _, _, _, _, _⟩ :: _) _ _); refine Stop.mk ?_) | ((with_reducible show wpList _ _ _ (⟨_, .buildSlice _ _ _, _, _, _, _⟩ :: _) _ _); refine Stop.mk ?_) | ((with_reducible show wpList _ _ _ (⟨_, .makeSlice _ _ _, _, _, _, _⟩ :: _) _ _); refine Stop.mk ?_) | ((with_reducible show wpList _ _ _ (⟨_, .call ⟨.builtin .append, _, _⟩, _, _, _, _⟩ :: _) _ _); refine Stop.mk ?_) | ((with_reducible show wpList _ _ _ (⟨_, .call ⟨.builtin .copy, _, _⟩, _, _, _, _⟩ :: _) _ _); refine Stop.mk ?_)); refine Stop.go (wl_alloc (by rfl) zeroID rfl hm ?_); clear hm; intro b1 w1 hm; simp only [Act.put, List.setIfInBounds_toArray, List.set_cons_zero, List.set_cons_succ]; (try simp only [rowOf_set, List.set_cons_zero, List.set_cons_succ, Value.cells, Act.eval, Array.getD_eq_getD_getElem?, List.getElem?_toArray, List.getElem?_cons_zero, List.getElem?_cons_succ, Option.getD_some] at hm)
  go_wp2_with (first | ((with_reducible show wpList _ _ _ (⟨_, .alloc _, _, _, _, _⟩ :: _) _ _); refine Stop.mk ?_) | ((with_reducible show wpList _ _ _ (⟨_, .box _ _, _, _, _, _⟩ :: _) _ _); refine Stop.mk ?_) | ((with_reducible show wpList _ _ _ (⟨_, .load _ _, _, _, _, _⟩ :: _) _ _); refine Stop.mk ?_) | ((with_reducible show wpList _ _ _ (⟨_, .store _ _ _, _, _, _, _⟩ :: _) _ _); refine Stop.mk ?_) | ((with_reducible show wpList _ _ _ (⟨_, .build _ _, _, _, _, _⟩ :: _) _ _); refine Stop.mk ?_) | ((with_reducible show wpList _ _ _ (⟨_, .buildSlice _ _ _, _, _, _, _⟩ :: _) _ _); refine Stop.mk ?_) | ((with_reducible show wpList _ _ _ (⟨_, .makeSlice _ _ _, _, _, _, _⟩ :: _) _ _); refine Stop.mk ?_) | ((with_reducible show wpList _ _ _ (⟨_, .call ⟨.builtin .append, _, _⟩, _, _, _, _⟩ :: _) _ _); refine Stop.mk ?_) | ((with_reducible show wpList _ _ _ (⟨_, .call ⟨.builtin .copy, _, _⟩, _, _, _, _⟩ :: _) _ _); refine Stop.mk ?_)); refine Stop.go (wl_alloc (by rfl) zeroID rfl hm ?_); clear hm; intro b2 w2 hm; simp only [Act.put, List.setIfInBounds_toArray, List.set_cons_zero, List.set_cons_succ]; (try simp only [rowOf_set, List.set_cons_zero, List.set_cons_succ, Value.cells, Act.eval, Array.getD_eq_getD_getElem?, List.getElem?_toArray, List.getElem?_cons_zero, List.getElem?_cons_succ, Option.getD_some] at hm)
  go_wp2_with (first | ((with_reducible show wpList _ _ _ (⟨_, .alloc _, _, _, _, _⟩ :: _) _ _); refine Stop.mk ?_) | ((with_reducible show wpList _ _ _ (⟨_, .box _ _, _, _, _, _⟩ :: _) _ _); refine Stop.mk ?_) | ((with_reducible show wpList _ _ _ (⟨_, .load _ _, _, _, _, _⟩ :: _) _ _); refine Stop.mk ?_) | ((with_reducible show wpList _ _ _ (⟨_, .store _ _ _, _, _, _, _⟩ :: _) _ _); refine Stop.mk ?_) | ((with_reducible show wpList _ _ _ (⟨_, .build _ _, _, _, _, _⟩ :: _) _ _); refine Stop.mk ?_) | ((with_reducible show wpList _ _ _ (⟨_, .buildSlice _ _ _, _, _, _, _⟩ :: _) _ _); refine Stop.mk ?_) | ((with_reducible show wpList _ _ _ (⟨_, .makeSlice _ _ _, _, _, _, _⟩ :: _) _ _); refine Stop.mk ?_) | ((with_reducible show wpList _ _ _ (⟨_, .call ⟨.builtin .append, _, _⟩, _, _, _, _⟩ :: _) _ _); refine Stop.mk ?_) | ((with_reducible show wpList _ _ _ (⟨_, .call ⟨.builtin .copy, _, _⟩, _, _, _, _⟩ :: _) _ _); refine Stop.mk ?_))
  go_loopw [5, 6] (fun b i wr => ∃ r : Nat, r ≤ k % 8 ∧ i = .int .i64 (r : Int) ∧ b = .int .i64 ((2 ^ r : Nat) : Int) ∧ Mem w [] [(b2, .cells (rowOf 20 fun _ => .int .u8 0) 23), (b1, .cells (rowOf 20 fun _ => .int .u8 0) 23)] wr)
    (fun _ i _ => (k % 8 - (intOf i).toNat))
  case atStart => exact ⟨0, by omega, rfl, rfl, hm⟩
  case round =>
    clear hm
    obtain ⟨r, hr, rfl, rfl, hm⟩ := hrel
    have hp7 : (2 : Nat) ^ r ≤ 2 ^ 7 := Nat.pow_le_pow_right (by omega) (by omega)
    have HP := hid (show (2 : Nat) ^ (r + 1) = 2 * 2 ^ r from by rw [Nat.pow_succ, Nat.mul_comm])
    have HQ := hid (pow_u8 r (by omega))
    by_cases hlt : r < k % 8
    · have hlt' : (r : Int) < (k : Int) % 8 := by omega
      obtain ⟨p, hp⟩ : ∃ p, p = 2 ^ r := ⟨_, rfl⟩
      rw [← hp] at hp7 ⊢
      have HPP := hid hp
      clear hp
      go_wp2_with (first | ((with_reducible show wpList _ _ _ (⟨_, .alloc _, _, _, _, _⟩ :: _) _ _); refine Stop.mk ?_) | ((with_reducible show wpList _ _ _ (⟨_, .box _ _, _, _, _, _⟩ :: _) _ _); refine Stop.mk ?_) | ((with_reducible show wpList _ _ _ (⟨_, .load _ _, _, _, _, _⟩ :: _) _ _); refine Stop.mk ?_) | ((with_reducible show wpList _ _ _ (⟨_, .store _ _ _, _, _, _, _⟩ :: _) _ _); refine Stop.mk ?_) | ((with_reducible show wpList _ _ _ (⟨_, .build _ _, _, _, _, _⟩ :: _) _ _); refine Stop.mk ?_) | ((with_reducible show wpList _ _ _ (⟨_, .buildSlice _ _ _, _, _, _, _⟩ :: _) _ _); refine Stop.mk ?_) | ((with_reducible show wpList _ _ _ (⟨_, .makeSlice _ _ _, _, _, _, _⟩ :: _) _ _); refine Stop.mk ?_) | ((with_reducible show wpList _ _ _ (⟨_, .call ⟨.builtin .append, _, _⟩, _, _, _, _⟩ :: _) _ _); refine Stop.mk ?_) | ((with_reducible show wpList _ _ _ (⟨_, .call ⟨.builtin .copy, _, _⟩, _, _, _, _⟩ :: _) _ _); refine Stop.mk ?_))
      go_roundw
      case rel => exact ⟨r + 1, by omega, by go_num, by rw [HP.out, ← HPP.out]; go_num, hm⟩
      case measure => simp [intOf]; omega
    · have hge : (k : Int) % 8 ≤ (r : Int) := by omega
      obtain rfl : r = k % 8 := by omega
      obtain ⟨p, hp⟩ : ∃ p, p = 2 ^ (k % 8) := ⟨_, rfl⟩
      rw [← hp] at hp7 ⊢
      have HPP := hid hp
      clear hp
      go_wp2_with (first | ((with_reducible show wpList _ _ _ (⟨_, .alloc _, _, _, _, _⟩ :: _) _ _); refine Stop.mk ?_) | ((with_reducible show wpList _ _ _ (⟨_, .box _ _, _, _, _, _⟩ :: _) _ _); refine Stop.mk ?_) | ((with_reducible show wpList _ _ _ (⟨_, .load _ _, _, _, _, _⟩ :: _) _ _); refine Stop.mk ?_) | ((with_reducible show wpList _ _ _ (⟨_, .store _ _ _, _, _, _, _⟩ :: _) _ _); refine Stop.mk ?_) | ((with_reducible show wpList _ _ _ (⟨_, .build _ _, _, _, _, _⟩ :: _) _ _); refine Stop.mk ?_) | ((with_reducible show wpList _ _ _ (⟨_, .buildSlice _ _ _, _, _, _, _⟩ :: _) _ _); refine Stop.mk ?_) | ((with_reducible show wpList _ _ _ (⟨_, .makeSlice _ _ _, _, _, _, _⟩ :: _) _ _); refine Stop.mk ?_) | ((with_reducible show wpList _ _ _ (⟨_, .call ⟨.builtin .append, _, _⟩, _, _, _, _⟩ :: _) _ _); refine Stop.mk ?_) | ((with_reducible show wpList _ _ _ (⟨_, .call ⟨.builtin .copy, _, _⟩, _, _, _, _⟩ :: _) _ _); refine Stop.mk ?_)); refine Stop.go (wl_storeCell (i := 0) (by rfl) hm rfl rfl rfl rfl sizeByte (by simp only [rowOf_size, idC_size]; omega) ?_); clear hm; intro w3 hm; simp only [Act.put, List.setIfInBounds_toArray, List.set_cons_zero, List.set_cons_succ]; simp only [rowOf_set, List.set_cons_zero, List.set_cons_succ, Value.cells, Act.eval, Array.getD_eq_getD_getElem?, List.getElem?_toArray, List.getElem?_cons_zero, List.getElem?_cons_succ, Option.getD_some] at hm
      have e : (rowOf 20 fun j => if j = 19 - k / 8 then Value.int .u8 (p : Int) else .int .u8 0) = idC (2 ^ k) := by
        rw [← pow_row k h]
        apply rowOf_congr
        intro i hi
        split
        · rw [HPP.out] at hp7 ⊢
          rw [pow_u8 _ (by omega)]
        · rfl
      rw [e] at hm
      go_wp2_with (first | ((with_reducible show wpList _ _ _ (⟨_, .alloc _, _, _, _, _⟩ :: _) _ _); refine Stop.mk ?_) | ((with_reducible show wpList _ _ _ (⟨_, .box _ _, _, _, _, _⟩ :: _) _ _); refine Stop.mk ?_) | ((with_reducible show wpList _ _ _ (⟨_, .load _ _, _, _, _, _⟩ :: _) _ _); refine Stop.mk ?_) | ((with_reducible show wpList _ _ _ (⟨_, .store _ _ _, _, _, _, _⟩ :: _) _ _); refine Stop.mk ?_) | ((with_reducible show wpList _ _ _ (⟨_, .build _ _, _, _, _, _⟩ :: _) _ _); refine Stop.mk ?_) | ((with_reducible show wpList _ _ _ (⟨_, .buildSlice _ _ _, _, _, _, _⟩ :: _) _ _); refine Stop.mk ?_) | ((with_reducible show wpList _ _ _ (⟨_, .makeSlice _ _ _, _, _, _, _⟩ :: _) _ _); refine Stop.mk ?_) | ((with_reducible show wpList _ _ _ (⟨_, .call ⟨.builtin .append, _, _⟩, _, _, _, _⟩ :: _) _ _); refine Stop.mk ?_) | ((with_reducible show wpList _ _ _ (⟨_, .call ⟨.builtin .copy, _, _⟩, _, _, _, _⟩ :: _) _ _); refine Stop.mk ?_)); refine Stop.go (wl_load (i := 0) (by rfl) hm rfl rfl undID rfl (by first | exact sizeID | (simp only [rowOf_size, idC_size]; exact sizeID)) ?_); simp only [Act.put, List.setIfInBounds_toArray, List.set_cons_zero, List.set_cons_succ]; (try simp only [← idV_eq])
      go_wp2_with (first | ((with_reducible show wpList _ _ _ (⟨_, .alloc _, _, _, _, _⟩ :: _) _ _); refine Stop.mk ?_) | ((with_reducible show wpList _ _ _ (⟨_, .box _ _, _, _, _, _⟩ :: _) _ _); refine Stop.mk ?_) | ((with_reducible show wpList _ _ _ (⟨_, .load _ _, _, _, _, _⟩ :: _) _ _); refine Stop.mk ?_) | ((with_reducible show wpList _ _ _ (⟨_, .store _ _ _, _, _, _, _⟩ :: _) _ _); refine Stop.mk ?_) | ((with_reducible show wpList _ _ _ (⟨_, .build _ _, _, _, _, _⟩ :: _) _ _); refine Stop.mk ?_) | ((with_reducible show wpList _ _ _ (⟨_, .buildSlice _ _ _, _, _, _, _⟩ :: _) _ _); refine Stop.mk ?_) | ((with_reducible show wpList _ _ _ (⟨_, .makeSlice _ _ _, _, _, _, _⟩ :: _) _ _); refine Stop.mk ?_) | ((with_reducible show wpList _ _ _ (⟨_, .call ⟨.builtin .append, _, _⟩, _, _, _, _⟩ :: _) _ _); refine Stop.mk ?_) | ((with_reducible show wpList _ _ _ (⟨_, .call ⟨.builtin .copy, _, _⟩, _, _, _, _⟩ :: _) _ _); refine Stop.mk ?_)); refine Stop.go (wl_store (i := 1) (by rfl) hm rfl rfl rfl (by first | rfl | exact idV_eq _) (by first | exact sizeID | (simp only [rowOf_size, idC_size]; exact sizeID)) (by simp only [rowOf_size, idC_size]) (by first | exact rowOf_one _ _ (fun _ _ => rfl) | exact idC_one _ | (exact rowOf_one _ _ (by intro i _; repeat (first | rfl | split)))) ?_); clear hm; intro w4 hm; simp only [Act.put, List.setIfInBounds_toArray, List.set_cons_zero, List.set_cons_succ]; simp only [rowOf_set, List.set_cons_zero, List.set_cons_succ, Value.cells, Act.eval, Array.getD_eq_getD_getElem?, List.getElem?_toArray, List.getElem?_cons_zero, List.getElem?_cons_succ, Option.getD_some] at hm
      go_wp2_with (first | ((with_reducible show wpList _ _ _ (⟨_, .alloc _, _, _, _, _⟩ :: _) _ _); refine Stop.mk ?_) | ((with_reducible show wpList _ _ _ (⟨_, .box _ _, _, _, _, _⟩ :: _) _ _); refine Stop.mk ?_) | ((with_reducible show wpList _ _ _ (⟨_, .load _ _, _, _, _, _⟩ :: _) _ _); refine Stop.mk ?_) | ((with_reducible show wpList _ _ _ (⟨_, .store _ _ _, _, _, _, _⟩ :: _) _ _); refine Stop.mk ?_) | ((with_reducible show wpList _ _ _ (⟨_, .build _ _, _, _, _, _⟩ :: _) _ _); refine Stop.mk ?_) | ((with_reducible show wpList _ _ _ (⟨_, .buildSlice _ _ _, _, _, _, _⟩ :: _) _ _); refine Stop.mk ?_) | ((with_reducible show wpList _ _ _ (⟨_, .makeSlice _ _ _, _, _, _, _⟩ :: _) _ _); refine Stop.mk ?_) | ((with_reducible show wpList _ _ _ (⟨_, .call ⟨.builtin .append, _, _⟩, _, _, _, _⟩ :: _) _ _); refine Stop.mk ?_) | ((with_reducible show wpList _ _ _ (⟨_, .call ⟨.builtin .copy, _, _⟩, _, _, _, _⟩ :: _) _ _); refine Stop.mk ?_)); refine bodyPost_ret (results_row_tmp (h := rfl) _ _ b1 _ _ _ _ rfl (hm.heap (i := 1) rfl) undID rfl (by first | exact sizeID | (simp only [rowOf_size, idC_size]; exact sizeID))) rfl ?_
      exact ⟨by rw [idV_eq]; rfl, hm.ext⟩

/-! ### Orders -/
@[irreducible] def ltM (a b : Nat) : Bool := decide (a % modM < b % modM)
@[irreducible] def eqM (a b : Nat) : Bool := decide (a % modM = b % modM)

/-- The list of the digits from place i on, as bytes. -/
def bytesFrom (a : Nat) : Nat → List UInt8
  | 0 => []
  | n + 1 => UInt8.ofNat (a / 256 ^ n % 256) :: bytesFrom a n

theorem lt_split (a b p : Nat) (hp : 0 < p) : (a < b) ↔ (a / p < b / p ∨ (a / p = b / p ∧ a % p < b % p)) := by
  have h1 := Nat.div_add_mod a p
  have h2 := Nat.div_add_mod b p
  have h3 := Nat.mod_lt a hp
  have h4 := Nat.mod_lt b hp
  rcases Nat.lt_trichotomy (a / p) (b / p) with h | h | h
  · have : p * (a / p) + p ≤ p * (b / p) := by rw [← Nat.mul_succ]; exact Nat.mul_le_mul_left _ h
    constructor
    · intro _; exact Or.inl h
    · intro _; omega
  · rw [h] at h1
    constructor
    · intro hab; exact Or.inr ⟨h, by omega⟩
    · rintro (h5 | ⟨_, h5⟩) <;> omega
  · have : p * (b / p) + p ≤ p * (a / p) := by rw [← Nat.mul_succ]; exact Nat.mul_le_mul_left _ h
    constructor
    · intro hab; omega
    · rintro (h5 | ⟨h5, _⟩) <;> omega

theorem u8_lt (x y : Nat) (hx : x < 256) (hy : y < 256) : (UInt8.ofNat x < UInt8.ofNat y) ↔ x < y := by
  rw [UInt8.lt_iff_toNat_lt, UInt8.toNat_ofNat_of_lt' (by simpa using hx), UInt8.toNat_ofNat_of_lt' (by simpa using hy)]

/-- What comparing the bytes tells of two numbers. -/
theorem compare_bytes (a b : Nat) : ∀ n, Lib.compareBytes (bytesFrom a n) (bytesFrom b n) = if a % 256 ^ n < b % 256 ^ n then -1 else if b % 256 ^ n < a % 256 ^ n then 1 else 0
  | 0 => by simp [bytesFrom, Lib.compareBytes, Nat.mod_one]
  | n + 1 => by
    have ih := compare_bytes a b n
    have hp : 0 < 256 ^ n := Nat.pow_pos (by omega)
    have m1 : a / 256 ^ n % 256 < 256 := Nat.mod_lt _ (by omega)
    have m2 : b / 256 ^ n % 256 < 256 := Nat.mod_lt _ (by omega)
    have e1 : (a % 256 ^ (n + 1)) / 256 ^ n = a / 256 ^ n % 256 := by rw [Nat.pow_succ, Nat.mod_mul, Nat.add_mul_div_left _ _ hp, Nat.div_eq_of_lt (Nat.mod_lt _ hp), Nat.zero_add]
    have e2 : (b % 256 ^ (n + 1)) / 256 ^ n = b / 256 ^ n % 256 := by rw [Nat.pow_succ, Nat.mod_mul, Nat.add_mul_div_left _ _ hp, Nat.div_eq_of_lt (Nat.mod_lt _ hp), Nat.zero_add]
    have e3 : (a % 256 ^ (n + 1)) % 256 ^ n = a % 256 ^ n := by rw [Nat.pow_succ, Nat.mod_mul_right_mod]
    have e4 : (b % 256 ^ (n + 1)) % 256 ^ n = b % 256 ^ n := by rw [Nat.pow_succ, Nat.mod_mul_right_mod]
    have l1 := lt_split (a % 256 ^ (n + 1)) (b % 256 ^ (n + 1)) (256 ^ n) hp
    have l2 := lt_split (b % 256 ^ (n + 1)) (a % 256 ^ (n + 1)) (256 ^ n) hp
    rw [e1, e2, e3, e4] at l1 l2
    unfold bytesFrom Lib.compareBytes
    rw [ih]
    simp only [u8_lt _ _ m1 m2, u8_lt _ _ m2 m1]
    by_cases h1 : a / 256 ^ n % 256 < b / 256 ^ n % 256
    · rw [if_pos h1, if_pos (l1.2 (Or.inl h1))]
    · rw [if_neg h1]
      by_cases h2 : b / 256 ^ n % 256 < a / 256 ^ n % 256
      · rw [if_pos h2, if_neg (fun h => by rcases l1.1 h with h | h <;> omega), if_pos (l2.2 (Or.inl h2))]
      · rw [if_neg h2]
        have he : a / 256 ^ n % 256 = b / 256 ^ n % 256 := by omega
        have f1 : (a % 256 ^ (n + 1) < b % 256 ^ (n + 1)) ↔ a % 256 ^ n < b % 256 ^ n := l1.trans ⟨fun h => by rcases h with h | h <;> omega, fun h => Or.inr ⟨he, h⟩⟩
        have f2 : (b % 256 ^ (n + 1) < a % 256 ^ (n + 1)) ↔ b % 256 ^ n < a % 256 ^ n := l2.trans ⟨fun h => by rcases h with h | h <;> omega, fun h => Or.inr ⟨he.symm, h⟩⟩
        simp only [f1, f2]

@[irreducible] def cmpM (a b : Nat) : Int := if a % modM < b % modM then -1 else if b % modM < a % modM then 1 else 0
theorem cmpM_neg (a b : Nat) : decide (cmpM a b < 0) = ltM a b := by
  unfold cmpM ltM
  split
  · rename_i h; simp [h]
  · rename_i h; split <;> simp [h]

/-- Reading the last n bytes of a row that holds a number's digits. -/
theorem load_bytes (w : World) (b a : Nat) (h : ∀ j, j < 20 → w.cell? ⟨b, j, none⟩ = some (.int .u8 ((dig a j : Nat) : Int))) : ∀ (n : Nat), n ≤ 20 → ∀ acc,
    (Extern.Bytes.loadBytes ⟨b, 20 - n, none⟩ n acc).run Try.prog w = .ok ⟨(acc.data.toList ++ bytesFrom a n).toArray⟩ w
  | 0, _, acc => by simp [Extern.Bytes.loadBytes, bytesFrom]
  | n + 1, hn, acc => by
    have ih := load_bytes w b a h n (by omega) (acc.push (UInt8.ofNat (dig a (19 - n))))
    have hc := h (19 - n) (by omega)
    have ea : (⟨b, 20 - (n + 1), none⟩ : Addr) = ⟨b, 19 - n, none⟩ := by congr 1; omega
    have eb : (⟨b, 19 - n, none⟩ : Addr).add 1 = ⟨b, 20 - n, none⟩ := by simp [Addr.add]; omega
    have hd : dig a (19 - n) = a / 256 ^ n % 256 := by unfold dig; rw [show 19 - (19 - n) = n from by omega]
    rw [ea]
    simp only [Extern.Bytes.loadBytes, Sem.run_bind, run_load, hc, Result.andThen_ok, eb]
    have et : (((dig a (19 - n) : Nat) : Int)).toNat.toUInt8 = UInt8.ofNat (dig a (19 - n)) := by simp [Nat.toUInt8]
    rw [et, ih, bytesFrom, hd]
    simp

theorem compare_c (a b x y : Nat) (cx cy : Nat) (w w0 : World) (L : List (Nat × Obj)) (i j : Nat) (hm : Mem w0 [] L w) (hi : L[i]? = some (x, .cells (idC a) 23)) (hj : L[j]? = some (y, .cells (idC b) 23)) :
    Calls Try.prog 27 #[.slice (some ⟨x, 0, none⟩) 20 cx, .slice (some ⟨y, 0, none⟩) 20 cy] w fun e w' => e = .returned (.int .i64 (cmpM a b)) ∧ Ext w w' := by
  have hca : ∀ k, k < 20 → w.cell? ⟨x, k, none⟩ = some (.int .u8 ((dig a k : Nat) : Int)) := fun k hk => by rw [hm.cell hi]; exact rowOf_get _ _ k hk
  have hcb : ∀ k, k < 20 → w.cell? ⟨y, k, none⟩ = some (.int .u8 ((dig b k : Nat) : Int)) := fun k hk => by rw [hm.cell hj]; exact rowOf_get _ _ k hk
  have hx := load_bytes w x a hca 20 (by omega) .empty
  have hy := load_bytes w y b hcb 20 (by omega) .empty
  have hr : (callFunc 30 #[.slice (some ⟨x, 0, none⟩) 20 cx, .slice (some ⟨y, 0, none⟩) 20 cy]).run Try.prog w = .ok (.value (.int .i64 (cmpM a b))) w := by
    rw [run_callFunc_extern Try.func30 (by kernel_rfl) (by kernel_rfl) (by kernel_rfl) (e := Extern.BytealgCompare.compare) (by kernel_rfl)]
    change (Sem.run Try.prog (do pure (goInt (Extern.BytealgCompare.cmp (← Extern.Bytes.bytesOf (.slice (some ⟨x, 0, none⟩) 20 cx)) (← Extern.Bytes.bytesOf (.slice (some ⟨y, 0, none⟩) 20 cy))))) w).andThen _ = _
    simp only [Extern.Bytes.bytesOf, Sem.run_bind]
    simp only [Nat.sub_self] at hx hy
    rw [hx]
    simp only [Result.andThen_ok]
    rw [hy]
    simp only [Result.andThen_ok, Sem.run_pure, Lib.cmp_eq]
    have e := compare_bytes a b 20
    rw [← modM_pow] at e
    simp [goInt, e, cmpM]
  clear hx hy hca hcb
  go_enter Try.func27, Try.ntmps27
  go_wp2_with (first | ((with_reducible show wpList _ _ _ (⟨_, .alloc _, _, _, _, _⟩ :: _) _ _); refine Stop.mk ?_) | ((with_reducible show wpList _ _ _ (⟨_, .box _ _, _, _, _, _⟩ :: _) _ _); refine Stop.mk ?_) | ((with_reducible show wpList _ _ _ (⟨_, .load _ _, _, _, _, _⟩ :: _) _ _); refine Stop.mk ?_) | ((with_reducible show wpList _ _ _ (⟨_, .store _ _ _, _, _, _, _⟩ :: _) _ _); refine Stop.mk ?_) | ((with_reducible show wpList _ _ _ (⟨_, .build _ _, _, _, _, _⟩ :: _) _ _); refine Stop.mk ?_) | ((with_reducible show wpList _ _ _ (⟨_, .buildSlice _ _ _, _, _, _, _⟩ :: _) _ _); refine Stop.mk ?_) | ((with_reducible show wpList _ _ _ (⟨_, .makeSlice _ _ _, _, _, _, _⟩ :: _) _ _); refine Stop.mk ?_) | ((with_reducible show wpList _ _ _ (⟨_, .call ⟨.builtin .append, _, _⟩, _, _, _, _⟩ :: _) _ _); refine Stop.mk ?_) | ((with_reducible show wpList _ _ _ (⟨_, .call ⟨.builtin .copy, _, _⟩, _, _, _, _⟩ :: _) _ _); refine Stop.mk ?_))
  go_ret
  exact ⟨rfl, Ext.refl _⟩

theorem less_c (a b : Nat) (w : World) :
    Calls Try.prog 16 #[idV a, idV b] w fun e w' => e = .returned (.bool (ltM a b)) ∧ Ext w w' := by
  go_enter Try.func16, Try.ntmps16
  have hm := Mem.refl w []
  go_wp2_with (first | ((with_reducible show wpList _ _ _ (⟨_, .alloc _, _, _, _, _⟩ :: _) _ _); refine Stop.mk ?_) | ((with_reducible show wpList _ _ _ (⟨_, .box _ _, _, _, _, _⟩ :: _) _ _); refine Stop.mk ?_) | ((with_reducible show wpList _ _ _ (⟨_, .load _ _, _, _, _, _⟩ :: _) _ _); refine Stop.mk ?_) | ((with_reducible show wpList _ _ _ (⟨_, .store _ _ _, _, _, _, _⟩ :: _) _ _); refine Stop.mk ?_) | ((with_reducible show wpList _ _ _ (⟨_, .build _ _, _, _, _, _⟩ :: _) _ _); refine Stop.mk ?_) | ((with_reducible show wpList _ _ _ (⟨_, .buildSlice _ _ _, _, _, _, _⟩ :: _) _ _); refine Stop.mk ?_) | ((with_reducible show wpList _ _ _ (⟨_, .makeSlice _ _ _, _, _, _, _⟩ :: _) _ _); refine Stop.mk ?_) | ((with_reducible show wpList _ _ _ (⟨_, .call ⟨.builtin .append, _, _⟩, _, _, _, _⟩ :: _) _ _); refine Stop.mk ?_) | ((with_reducible show wpList _ _ _ (⟨_, .call ⟨.builtin .copy, _, _⟩, _, _, _, _⟩ :: _) _ _); refine Stop.mk ?_)); refine Stop.go (wl_box (by rfl) rfl (idV_cells a) hm ?_); clear hm; intro b1 w1 hm; simp only [Act.put, List.setIfInBounds_toArray, List.set_cons_zero, List.set_cons_succ]; (try simp only [rowOf_set, List.set_cons_zero, List.set_cons_succ, Value.cells, Act.eval, Array.getD_eq_getD_getElem?, List.getElem?_toArray, List.getElem?_cons_zero, List.getElem?_cons_succ, Option.getD_some] at hm)
  go_wp2_with (first | ((with_reducible show wpList _ _ _ (⟨_, .alloc _, _, _, _, _⟩ :: _) _ _); refine Stop.mk ?_) | ((with_reducible show wpList _ _ _ (⟨_, .box _ _, _, _, _, _⟩ :: _) _ _); refine Stop.mk ?_) | ((with_reducible show wpList _ _ _ (⟨_, .load _ _, _, _, _, _⟩ :: _) _ _); refine Stop.mk ?_) | ((with_reducible show wpList _ _ _ (⟨_, .store _ _ _, _, _, _, _⟩ :: _) _ _); refine Stop.mk ?_) | ((with_reducible show wpList _ _ _ (⟨_, .build _ _, _, _, _, _⟩ :: _) _ _); refine Stop.mk ?_) | ((with_reducible show wpList _ _ _ (⟨_, .buildSlice _ _ _, _, _, _, _⟩ :: _) _ _); refine Stop.mk ?_) | ((with_reducible show wpList _ _ _ (⟨_, .makeSlice _ _ _, _, _, _, _⟩ :: _) _ _); refine Stop.mk ?_) | ((with_reducible show wpList _ _ _ (⟨_, .call ⟨.builtin .append, _, _⟩, _, _, _, _⟩ :: _) _ _); refine Stop.mk ?_) | ((with_reducible show wpList _ _ _ (⟨_, .call ⟨.builtin .copy, _, _⟩, _, _, _, _⟩ :: _) _ _); refine Stop.mk ?_)); refine Stop.go (wl_box (by rfl) rfl (idV_cells b) hm ?_); clear hm; intro b2 w2 hm; simp only [Act.put, List.setIfInBounds_toArray, List.set_cons_zero, List.set_cons_succ]; (try simp only [rowOf_set, List.set_cons_zero, List.set_cons_succ, Value.cells, Act.eval, Array.getD_eq_getD_getElem?, List.getElem?_toArray, List.getElem?_cons_zero, List.getElem?_cons_succ, Option.getD_some] at hm)
  go_wp2_with (first | ((with_reducible show wpList _ _ _ (⟨_, .alloc _, _, _, _, _⟩ :: _) _ _); refine Stop.mk ?_) | ((with_reducible show wpList _ _ _ (⟨_, .box _ _, _, _, _, _⟩ :: _) _ _); refine Stop.mk ?_) | ((with_reducible show wpList _ _ _ (⟨_, .load _ _, _, _, _, _⟩ :: _) _ _); refine Stop.mk ?_) | ((with_reducible show wpList _ _ _ (⟨_, .store _ _ _, _, _, _, _⟩ :: _) _ _); refine Stop.mk ?_) | ((with_reducible show wpList _ _ _ (⟨_, .build _ _, _, _, _, _⟩ :: _) _ _); refine Stop.mk ?_) | ((with_reducible show wpList _ _ _ (⟨_, .buildSlice _ _ _, _, _, _, _⟩ :: _) _ _); refine Stop.mk ?_) | ((with_reducible show wpList _ _ _ (⟨_, .makeSlice _ _ _, _, _, _, _⟩ :: _) _ _); refine Stop.mk ?_) | ((with_reducible show wpList _ _ _ (⟨_, .call ⟨.builtin .append, _, _⟩, _, _, _, _⟩ :: _) _ _); refine Stop.mk ?_) | ((with_reducible show wpList _ _ _ (⟨_, .call ⟨.builtin .copy, _, _⟩, _, _, _, _⟩ :: _) _ _); refine Stop.mk ?_)); refine wp_quiet_mem (by kernel_rfl) (by kernel_rfl) hm ?_
  refine wq_any (by rfl) ?_; apply Exists.intro; refine ⟨?_, ?_⟩; · (intro w hC; go_simp; try with_reducible rfl)
  simp only [Act.put, List.setIfInBounds_toArray, List.set_cons_zero, List.set_cons_succ]
  refine wq_any (by rfl) ?_; apply Exists.intro; refine ⟨?_, ?_⟩; · (intro w hC; go_simp; try with_reducible rfl)
  simp only [Act.put, List.setIfInBounds_toArray, List.set_cons_zero, List.set_cons_succ]
  refine wq_ask (by rfl) ?_; apply Exists.intro; refine ⟨?_, ?_⟩; · (intro w hC; go_simp; exact (compare_c a b b1 b2 20 20 w _ _ 1 0 hC rfl rfl).mono fun e w' h => ⟨h.1, hC.call h.2⟩)
  simp only [Act.put, List.setIfInBounds_toArray, List.set_cons_zero, List.set_cons_succ]
  have hq := cmpM_neg a b
  refine wq_any (by rfl) ?_; apply Exists.intro; refine ⟨?_, ?_⟩; · (intro w hC; go_simp; try with_reducible rfl)
  simp only [Act.put, List.setIfInBounds_toArray, List.set_cons_zero, List.set_cons_succ]
  refine wq_any (by rfl) ?_; apply Exists.intro; refine ⟨?_, ?_⟩; · (intro w hC; go_simp; try with_reducible rfl)
  simp only [Act.put, List.setIfInBounds_toArray, List.set_cons_zero, List.set_cons_succ]
  refine wpQuiet_nil ?_; clear hm; intro w3 hm
  go_wp2_with (first | ((with_reducible show wpList _ _ _ (⟨_, .alloc _, _, _, _, _⟩ :: _) _ _); refine Stop.mk ?_) | ((with_reducible show wpList _ _ _ (⟨_, .box _ _, _, _, _, _⟩ :: _) _ _); refine Stop.mk ?_) | ((with_reducible show wpList _ _ _ (⟨_, .load _ _, _, _, _, _⟩ :: _) _ _); refine Stop.mk ?_) | ((with_reducible show wpList _ _ _ (⟨_, .store _ _ _, _, _, _, _⟩ :: _) _ _); refine Stop.mk ?_) | ((with_reducible show wpList _ _ _ (⟨_, .build _ _, _, _, _, _⟩ :: _) _ _); refine Stop.mk ?_) | ((with_reducible show wpList _ _ _ (⟨_, .buildSlice _ _ _, _, _, _, _⟩ :: _) _ _); refine Stop.mk ?_) | ((with_reducible show wpList _ _ _ (⟨_, .makeSlice _ _ _, _, _, _, _⟩ :: _) _ _); refine Stop.mk ?_) | ((with_reducible show wpList _ _ _ (⟨_, .call ⟨.builtin .append, _, _⟩, _, _, _, _⟩ :: _) _ _); refine Stop.mk ?_) | ((with_reducible show wpList _ _ _ (⟨_, .call ⟨.builtin .copy, _, _⟩, _, _, _, _⟩ :: _) _ _); refine Stop.mk ?_))
  go_ret
  exact ⟨rfl, hm.ext⟩

theorem top_step (a k : Nat) (h : k < 20) : (a % modM) / 256 ^ (19 - k) = 256 * ((a % modM) / 256 ^ (20 - k)) + dig a k := by
  rw [← dig_mod a k h]
  unfold dig
  rw [show 20 - k = (19 - k) + 1 from by omega, Nat.pow_succ, ← Nat.div_div_eq_div_mul]
  generalize a % modM / 256 ^ (19 - k) = x
  omega

theorem lt_at (a b k : Nat) (h : k < 20) (he : (a % modM) / 256 ^ (20 - k) = (b % modM) / 256 ^ (20 - k)) (hd : dig a k ≠ dig b k) : ltM a b = decide (dig a k < dig b k) := by
  have h1 := top_step a k h
  have h2 := top_step b k h
  have hl := lt_split (a % modM) (b % modM) (256 ^ (19 - k)) (Nat.pow_pos (by omega))
  unfold ltM
  rw [decide_eq_decide, hl, h1, h2, he]
  constructor
  · rintro (h | ⟨h, _⟩) <;> omega
  · intro h; exact Or.inl (by omega)

theorem refLess_c (a b : Nat) (w : World) :
    Calls Try.prog 17 #[idV a, idV b] w fun e w' => e = .returned (.bool (ltM a b)) ∧ Ext w w' := by
  go_enter Try.func17, Try.ntmps17
  have hm := Mem.refl w []
  go_wp2_with (first | ((with_reducible show wpList _ _ _ (⟨_, .alloc _, _, _, _, _⟩ :: _) _ _); refine Stop.mk ?_) | ((with_reducible show wpList _ _ _ (⟨_, .box _ _, _, _, _, _⟩ :: _) _ _); refine Stop.mk ?_) | ((with_reducible show wpList _ _ _ (⟨_, .load _ _, _, _, _, _⟩ :: _) _ _); refine Stop.mk ?_) | ((with_reducible show wpList _ _ _ (⟨_, .store _ _ _, _, _, _, _⟩ :: _) _ _); refine Stop.mk ?_) | ((with_reducible show wpList _ _ _ (⟨_, .build _ _, _, _, _, _⟩ :: _) _ _); refine Stop.mk ?_) | ((with_reducible show wpList _ _ _ (⟨_, .buildSlice _ _ _, _, _, _, _⟩ :: _) _ _); refine Stop.mk ?_) | ((with_reducible show wpList _ _ _ (⟨_, .makeSlice _ _ _, _, _, _, _⟩ :: _) _ _); refine Stop.mk ?_) | ((with_reducible show wpList _ _ _ (⟨_, .call ⟨.builtin .append, _, _⟩, _, _, _, _⟩ :: _) _ _); refine Stop.mk ?_) | ((with_reducible show wpList _ _ _ (⟨_, .call ⟨.builtin .copy, _, _⟩, _, _, _, _⟩ :: _) _ _); refine Stop.mk ?_)); refine Stop.go (wl_box (by rfl) rfl (idV_cells a) hm ?_); clear hm; intro b1 w1 hm; simp only [Act.put, List.setIfInBounds_toArray, List.set_cons_zero, List.set_cons_succ]; (try simp only [rowOf_set, List.set_cons_zero, List.set_cons_succ, Value.cells, Act.eval, Array.getD_eq_getD_getElem?, List.getElem?_toArray, List.getElem?_cons_zero, List.getElem?_cons_succ, Option.getD_some] at hm)
  go_wp2_with (first | ((with_reducible show wpList _ _ _ (⟨_, .alloc _, _, _, _, _⟩ :: _) _ _); refine Stop.mk ?_) | ((with_reducible show wpList _ _ _ (⟨_, .box _ _, _, _, _, _⟩ :: _) _ _); refine Stop.mk ?_) | ((with_reducible show wpList _ _ _ (⟨_, .load _ _, _, _, _, _⟩ :: _) _ _); refine Stop.mk ?_) | ((with_reducible show wpList _ _ _ (⟨_, .store _ _ _, _, _, _, _⟩ :: _) _ _); refine Stop.mk ?_) | ((with_reducible show wpList _ _ _ (⟨_, .build _ _, _, _, _, _⟩ :: _) _ _); refine Stop.mk ?_) | ((with_reducible show wpList _ _ _ (⟨_, .buildSlice _ _ _, _, _, _, _⟩ :: _) _ _); refine Stop.mk ?_) | ((with_reducible show wpList _ _ _ (⟨_, .makeSlice _ _ _, _, _, _, _⟩ :: _) _ _); refine Stop.mk ?_) | ((with_reducible show wpList _ _ _ (⟨_, .call ⟨.builtin .append, _, _⟩, _, _, _, _⟩ :: _) _ _); refine Stop.mk ?_) | ((with_reducible show wpList _ _ _ (⟨_, .call ⟨.builtin .copy, _, _⟩, _, _, _, _⟩ :: _) _ _); refine Stop.mk ?_)); refine Stop.go (wl_box (by rfl) rfl (idV_cells b) hm ?_); clear hm; intro b2 w2 hm; simp only [Act.put, List.setIfInBounds_toArray, List.set_cons_zero, List.set_cons_succ]; (try simp only [rowOf_set, List.set_cons_zero, List.set_cons_succ, Value.cells, Act.eval, Array.getD_eq_getD_getElem?, List.getElem?_toArray, List.getElem?_cons_zero, List.getElem?_cons_succ, Option.getD_some] at hm)
  go_wp2_with (first | ((with_reducible show wpList _ _ _ (⟨_, .alloc _, _, _, _, _⟩ :: _) _ _); refine Stop.mk ?_) | ((with_reducible show wpList _ _ _ (⟨_, .box _ _, _, _, _, _⟩ :: _) _ _); refine Stop.mk ?_) | ((with_reducible show wpList _ _ _ (⟨_, .load _ _, _, _, _, _⟩ :: _) _ _); refine Stop.mk ?_) | ((with_reducible show wpList _ _ _ (⟨_, .store _ _ _, _, _, _, _⟩ :: _) _ _); refine Stop.mk ?_) | ((with_reducible show wpList _ _ _ (⟨_, .build _ _, _, _, _, _⟩ :: _) _ _); refine Stop.mk ?_) | ((with_reducible show wpList _ _ _ (⟨_, .buildSlice _ _ _, _, _, _, _⟩ :: _) _ _); refine Stop.mk ?_) | ((with_reducible show wpList _ _ _ (⟨_, .makeSlice _ _ _, _, _, _, _⟩ :: _) _ _); refine Stop.mk ?_) | ((with_reducible show wpList _ _ _ (⟨_, .call ⟨.builtin .append, _, _⟩, _, _, _, _⟩ :: _) _ _); refine Stop.mk ?_) | ((with_reducible show wpList _ _ _ (⟨_, .call ⟨.builtin .copy, _, _⟩, _, _, _, _⟩ :: _) _ _); refine Stop.mk ?_))
  go_loopw [5] (fun i wr => ∃ k : Nat, k ≤ 20 ∧ i = .int .i64 (k : Int) ∧ Hid ((a % modM) / 256 ^ (20 - k) = (b % modM) / 256 ^ (20 - k)) ∧ Mem w [] [(b2, .cells (idC b) 23), (b1, .cells (idC a) 23)] wr)
    (fun i _ => (20 - intOf i).toNat)
  case atStart => exact ⟨0, by omega, rfl, hid (by rw [Nat.div_eq_of_lt (by rw [← modM_pow]; exact Nat.mod_lt _ modM_pos), Nat.div_eq_of_lt (by rw [← modM_pow]; exact Nat.mod_lt _ modM_pos)]), hm⟩
  case round =>
    clear hm
    obtain ⟨k, hk, rfl, HE, hm⟩ := hrel
    by_cases h0 : k < 20
    · have hk20 : (k : Int) < 20 := by omega
      have hk0 : (0 : Int) ≤ (k : Int) := by omega
      by_cases hd : dig a k = dig b k
      · have HN := hid (show (a % modM) / 256 ^ (20 - (k + 1)) = (b % modM) / 256 ^ (20 - (k + 1)) from by
          rw [show 20 - (k + 1) = 19 - k from by omega, top_step a k h0, top_step b k h0, HE.out, hd])
        have hne : (((dig a k : Nat) : Int) != ((dig b k : Nat) : Int)) = false := by rw [hd]; simp
        have HD := hid hd
        clear hd
        go_wp2_with (first | ((with_reducible show wpList _ _ _ (⟨_, .alloc _, _, _, _, _⟩ :: _) _ _); refine Stop.mk ?_) | ((with_reducible show wpList _ _ _ (⟨_, .box _ _, _, _, _, _⟩ :: _) _ _); refine Stop.mk ?_) | ((with_reducible show wpList _ _ _ (⟨_, .load _ _, _, _, _, _⟩ :: _) _ _); refine Stop.mk ?_) | ((with_reducible show wpList _ _ _ (⟨_, .store _ _ _, _, _, _, _⟩ :: _) _ _); refine Stop.mk ?_) | ((with_reducible show wpList _ _ _ (⟨_, .build _ _, _, _, _, _⟩ :: _) _ _); refine Stop.mk ?_) | ((with_reducible show wpList _ _ _ (⟨_, .buildSlice _ _ _, _, _, _, _⟩ :: _) _ _); refine Stop.mk ?_) | ((with_reducible show wpList _ _ _ (⟨_, .makeSlice _ _ _, _, _, _, _⟩ :: _) _ _); refine Stop.mk ?_) | ((with_reducible show wpList _ _ _ (⟨_, .call ⟨.builtin .append, _, _⟩, _, _, _, _⟩ :: _) _ _); refine Stop.mk ?_) | ((with_reducible show wpList _ _ _ (⟨_, .call ⟨.builtin .copy, _, _⟩, _, _, _, _⟩ :: _) _ _); refine Stop.mk ?_)); refine wp_quiet_mem (by kernel_rfl) (by kernel_rfl) hm ?_
        refine wq_any (by rfl) ?_; apply Exists.intro; refine ⟨?_, ?_⟩; · (intro w hC; go_simp; try with_reducible rfl)
        simp only [Act.put, List.setIfInBounds_toArray, List.set_cons_zero, List.set_cons_succ]
        refine wq_any (by rfl) ?_; apply Exists.intro; refine ⟨?_, ?_⟩; · (intro w hC; go_simp; try with_reducible rfl)
        simp only [Act.put, List.setIfInBounds_toArray, List.set_cons_zero, List.set_cons_succ]
        refine wq_loadCell (i := 1) rfl rfl rfl (rowOf_get _ _ k (by omega)) undByte rfl ?_; simp only [Act.put, List.setIfInBounds_toArray, List.set_cons_zero, List.set_cons_succ]
        refine wq_any (by rfl) ?_; apply Exists.intro; refine ⟨?_, ?_⟩; · (intro w hC; go_simp; try with_reducible rfl)
        simp only [Act.put, List.setIfInBounds_toArray, List.set_cons_zero, List.set_cons_succ]
        refine wq_any (by rfl) ?_; apply Exists.intro; refine ⟨?_, ?_⟩; · (intro w hC; go_simp; try with_reducible rfl)
        simp only [Act.put, List.setIfInBounds_toArray, List.set_cons_zero, List.set_cons_succ]
        refine wq_loadCell (i := 0) rfl rfl rfl (rowOf_get _ _ k (by omega)) undByte rfl ?_; simp only [Act.put, List.setIfInBounds_toArray, List.set_cons_zero, List.set_cons_succ]
        refine wq_any (by rfl) ?_; apply Exists.intro; refine ⟨?_, ?_⟩; · (intro w hC; go_simp; try with_reducible rfl)
        simp only [Act.put, List.setIfInBounds_toArray, List.set_cons_zero, List.set_cons_succ]
        refine wpQuiet_nil ?_; clear hm; intro w3 hm
        go_wp2_with (first | ((with_reducible show wpList _ _ _ (⟨_, .alloc _, _, _, _, _⟩ :: _) _ _); refine Stop.mk ?_) | ((with_reducible show wpList _ _ _ (⟨_, .box _ _, _, _, _, _⟩ :: _) _ _); refine Stop.mk ?_) | ((with_reducible show wpList _ _ _ (⟨_, .load _ _, _, _, _, _⟩ :: _) _ _); refine Stop.mk ?_) | ((with_reducible show wpList _ _ _ (⟨_, .store _ _ _, _, _, _, _⟩ :: _) _ _); refine Stop.mk ?_) | ((with_reducible show wpList _ _ _ (⟨_, .build _ _, _, _, _, _⟩ :: _) _ _); refine Stop.mk ?_) | ((with_reducible show wpList _ _ _ (⟨_, .buildSlice _ _ _, _, _, _, _⟩ :: _) _ _); refine Stop.mk ?_) | ((with_reducible show wpList _ _ _ (⟨_, .makeSlice _ _ _, _, _, _, _⟩ :: _) _ _); refine Stop.mk ?_) | ((with_reducible show wpList _ _ _ (⟨_, .call ⟨.builtin .append, _, _⟩, _, _, _, _⟩ :: _) _ _); refine Stop.mk ?_) | ((with_reducible show wpList _ _ _ (⟨_, .call ⟨.builtin .copy, _, _⟩, _, _, _, _⟩ :: _) _ _); refine Stop.mk ?_))
        go_roundw
        case rel => exact ⟨k + 1, by omega, by go_num, HN, hm⟩
        case measure => simp [intOf]; omega
      · have HL := hid (lt_at a b k h0 HE.out hd)
        have hne : (((dig a k : Nat) : Int) != ((dig b k : Nat) : Int)) = true := by rw [bne_iff_ne]; omega
        have hq : decide (((dig a k : Nat) : Int) < ((dig b k : Nat) : Int)) = ltM a b := by rw [HL.out, decide_eq_decide]; omega
        have HD := hid hd
        clear hd
        go_wp2_with (first | ((with_reducible show wpList _ _ _ (⟨_, .alloc _, _, _, _, _⟩ :: _) _ _); refine Stop.mk ?_) | ((with_reducible show wpList _ _ _ (⟨_, .box _ _, _, _, _, _⟩ :: _) _ _); refine Stop.mk ?_) | ((with_reducible show wpList _ _ _ (⟨_, .load _ _, _, _, _, _⟩ :: _) _ _); refine Stop.mk ?_) | ((with_reducible show wpList _ _ _ (⟨_, .store _ _ _, _, _, _, _⟩ :: _) _ _); refine Stop.mk ?_) | ((with_reducible show wpList _ _ _ (⟨_, .build _ _, _, _, _, _⟩ :: _) _ _); refine Stop.mk ?_) | ((with_reducible show wpList _ _ _ (⟨_, .buildSlice _ _ _, _, _, _, _⟩ :: _) _ _); refine Stop.mk ?_) | ((with_reducible show wpList _ _ _ (⟨_, .makeSlice _ _ _, _, _, _, _⟩ :: _) _ _); refine Stop.mk ?_) | ((with_reducible show wpList _ _ _ (⟨_, .call ⟨.builtin .append, _, _⟩, _, _, _, _⟩ :: _) _ _); refine Stop.mk ?_) | ((with_reducible show wpList _ _ _ (⟨_, .call ⟨.builtin .copy, _, _⟩, _, _, _, _⟩ :: _) _ _); refine Stop.mk ?_)); refine wp_quiet_mem (by kernel_rfl) (by kernel_rfl) hm ?_
        refine wq_any (by rfl) ?_; apply Exists.intro; refine ⟨?_, ?_⟩; · (intro w hC; go_simp; try with_reducible rfl)
        simp only [Act.put, List.setIfInBounds_toArray, List.set_cons_zero, List.set_cons_succ]
        refine wq_any (by rfl) ?_; apply Exists.intro; refine ⟨?_, ?_⟩; · (intro w hC; go_simp; try with_reducible rfl)
        simp only [Act.put, List.setIfInBounds_toArray, List.set_cons_zero, List.set_cons_succ]
        refine wq_loadCell (i := 1) rfl rfl rfl (rowOf_get _ _ k (by omega)) undByte rfl ?_; simp only [Act.put, List.setIfInBounds_toArray, List.set_cons_zero, List.set_cons_succ]
        refine wq_any (by rfl) ?_; apply Exists.intro; refine ⟨?_, ?_⟩; · (intro w hC; go_simp; try with_reducible rfl)
        simp only [Act.put, List.setIfInBounds_toArray, List.set_cons_zero, List.set_cons_succ]
        refine wq_any (by rfl) ?_; apply Exists.intro; refine ⟨?_, ?_⟩; · (intro w hC; go_simp; try with_reducible rfl)
        simp only [Act.put, List.setIfInBounds_toArray, List.set_cons_zero, List.set_cons_succ]
        refine wq_loadCell (i := 0) rfl rfl rfl (rowOf_get _ _ k (by omega)) undByte rfl ?_; simp only [Act.put, List.setIfInBounds_toArray, List.set_cons_zero, List.set_cons_succ]
        refine wq_any (by rfl) ?_; apply Exists.intro; refine ⟨?_, ?_⟩; · (intro w hC; go_simp; try with_reducible rfl)
        simp only [Act.put, List.setIfInBounds_toArray, List.set_cons_zero, List.set_cons_succ]
        refine wpQuiet_nil ?_; clear hm; intro w3 hm
        go_wp2_with (first | ((with_reducible show wpList _ _ _ (⟨_, .alloc _, _, _, _, _⟩ :: _) _ _); refine Stop.mk ?_) | ((with_reducible show wpList _ _ _ (⟨_, .box _ _, _, _, _, _⟩ :: _) _ _); refine Stop.mk ?_) | ((with_reducible show wpList _ _ _ (⟨_, .load _ _, _, _, _, _⟩ :: _) _ _); refine Stop.mk ?_) | ((with_reducible show wpList _ _ _ (⟨_, .store _ _ _, _, _, _, _⟩ :: _) _ _); refine Stop.mk ?_) | ((with_reducible show wpList _ _ _ (⟨_, .build _ _, _, _, _, _⟩ :: _) _ _); refine Stop.mk ?_) | ((with_reducible show wpList _ _ _ (⟨_, .buildSlice _ _ _, _, _, _, _⟩ :: _) _ _); refine Stop.mk ?_) | ((with_reducible show wpList _ _ _ (⟨_, .makeSlice _ _ _, _, _, _, _⟩ :: _) _ _); refine Stop.mk ?_) | ((with_reducible show wpList _ _ _ (⟨_, .call ⟨.builtin .append, _, _⟩, _, _, _, _⟩ :: _) _ _); refine Stop.mk ?_) | ((with_reducible show wpList _ _ _ (⟨_, .call ⟨.builtin .copy, _, _⟩, _, _, _, _⟩ :: _) _ _); refine Stop.mk ?_)); refine wp_quiet_mem (by kernel_rfl) (by kernel_rfl) hm ?_
        refine wq_any (by rfl) ?_; apply Exists.intro; refine ⟨?_, ?_⟩; · (intro w hC; go_simp; try with_reducible rfl)
        simp only [Act.put, List.setIfInBounds_toArray, List.set_cons_zero, List.set_cons_succ]
        refine wq_any (by rfl) ?_; apply Exists.intro; refine ⟨?_, ?_⟩; · (intro w hC; go_simp; try with_reducible rfl)
        simp only [Act.put, List.setIfInBounds_toArray, List.set_cons_zero, List.set_cons_succ]
        refine wq_loadCell (i := 1) rfl rfl rfl (rowOf_get _ _ k (by omega)) undByte rfl ?_; simp only [Act.put, List.setIfInBounds_toArray, List.set_cons_zero, List.set_cons_succ]
        refine wq_any (by rfl) ?_; apply Exists.intro; refine ⟨?_, ?_⟩; · (intro w hC; go_simp; try with_reducible rfl)
        simp only [Act.put, List.setIfInBounds_toArray, List.set_cons_zero, List.set_cons_succ]
        refine wq_any (by rfl) ?_; apply Exists.intro; refine ⟨?_, ?_⟩; · (intro w hC; go_simp; try with_reducible rfl)
        simp only [Act.put, List.setIfInBounds_toArray, List.set_cons_zero, List.set_cons_succ]
        refine wq_loadCell (i := 0) rfl rfl rfl (rowOf_get _ _ k (by omega)) undByte rfl ?_; simp only [Act.put, List.setIfInBounds_toArray, List.set_cons_zero, List.set_cons_succ]
        refine wq_any (by rfl) ?_; apply Exists.intro; refine ⟨?_, ?_⟩; · (intro w hC; go_simp; try with_reducible rfl)
        simp only [Act.put, List.setIfInBounds_toArray, List.set_cons_zero, List.set_cons_succ]
        refine wq_any (by rfl) ?_; apply Exists.intro; refine ⟨?_, ?_⟩; · (intro w hC; go_simp; try with_reducible rfl)
        simp only [Act.put, List.setIfInBounds_toArray, List.set_cons_zero, List.set_cons_succ]
        refine wpQuiet_nil ?_; clear hm; intro w4 hm
        go_wp2_with (first | ((with_reducible show wpList _ _ _ (⟨_, .alloc _, _, _, _, _⟩ :: _) _ _); refine Stop.mk ?_) | ((with_reducible show wpList _ _ _ (⟨_, .box _ _, _, _, _, _⟩ :: _) _ _); refine Stop.mk ?_) | ((with_reducible show wpList _ _ _ (⟨_, .load _ _, _, _, _, _⟩ :: _) _ _); refine Stop.mk ?_) | ((with_reducible show wpList _ _ _ (⟨_, .store _ _ _, _, _, _, _⟩ :: _) _ _); refine Stop.mk ?_) | ((with_reducible show wpList _ _ _ (⟨_, .build _ _, _, _, _, _⟩ :: _) _ _); refine Stop.mk ?_) | ((with_reducible show wpList _ _ _ (⟨_, .buildSlice _ _ _, _, _, _, _⟩ :: _) _ _); refine Stop.mk ?_) | ((with_reducible show wpList _ _ _ (⟨_, .makeSlice _ _ _, _, _, _, _⟩ :: _) _ _); refine Stop.mk ?_) | ((with_reducible show wpList _ _ _ (⟨_, .call ⟨.builtin .append, _, _⟩, _, _, _, _⟩ :: _) _ _); refine Stop.mk ?_) | ((with_reducible show wpList _ _ _ (⟨_, .call ⟨.builtin .copy, _, _⟩, _, _, _, _⟩ :: _) _ _); refine Stop.mk ?_))
        go_ret
        exact ⟨by rw [HL.out]; rfl, hm.ext⟩
    · obtain rfl : k = 20 := by omega
      have HL := hid (show ltM a b = false from by
        have := HE.out
        simp only [Nat.sub_self, Nat.pow_zero, Nat.div_one] at this
        unfold ltM
        simp [this])
      go_wp2_with (first | ((with_reducible show wpList _ _ _ (⟨_, .alloc _, _, _, _, _⟩ :: _) _ _); refine Stop.mk ?_) | ((with_reducible show wpList _ _ _ (⟨_, .box _ _, _, _, _, _⟩ :: _) _ _); refine Stop.mk ?_) | ((with_reducible show wpList _ _ _ (⟨_, .load _ _, _, _, _, _⟩ :: _) _ _); refine Stop.mk ?_) | ((with_reducible show wpList _ _ _ (⟨_, .store _ _ _, _, _, _, _⟩ :: _) _ _); refine Stop.mk ?_) | ((with_reducible show wpList _ _ _ (⟨_, .build _ _, _, _, _, _⟩ :: _) _ _); refine Stop.mk ?_) | ((with_reducible show wpList _ _ _ (⟨_, .buildSlice _ _ _, _, _, _, _⟩ :: _) _ _); refine Stop.mk ?_) | ((with_reducible show wpList _ _ _ (⟨_, .makeSlice _ _ _, _, _, _, _⟩ :: _) _ _); refine Stop.mk ?_) | ((with_reducible show wpList _ _ _ (⟨_, .call ⟨.builtin .append, _, _⟩, _, _, _, _⟩ :: _) _ _); refine Stop.mk ?_) | ((with_reducible show wpList _ _ _ (⟨_, .call ⟨.builtin .copy, _, _⟩, _, _, _, _⟩ :: _) _ _); refine Stop.mk ?_))
      go_ret
      exact ⟨by rw [HL.out]; rfl, hm.ext⟩
end Go.Proofs.Ythanfkopioehcaa
