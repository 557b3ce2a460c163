/-
  The plain laws on places: numbers modulo 2 to the 160; no program in sight.
-/
import Derived.Test.YthanfkopioehcaaIdD
namespace Go.Proofs.Ythanfkopioehcaa
set_option maxHeartbeats 400000
set_option maxRecDepth 20000

theorem subV_mod (a b : Nat) : subV a b % modM = (a % modM + (modM - b % modM)) % modM := by
  rw [subV_eq]; simp only [modM]; omega
theorem add_mod (a b : Nat) : (a + b) % modM = (a % modM + b % modM) % modM := Nat.add_mod _ _ _

theorem eqM_refl (a : Nat) : eqM a a = true := by unfold eqM; simp
theorem sums1 (a b : Nat) : eqM (a + b) (b + a) = true := by rw [Nat.add_comm]; exact eqM_refl _
theorem sums2 (a b c : Nat) : eqM (a + b + c) (a + (b + c)) = true := by rw [Nat.add_assoc]; exact eqM_refl _
theorem sums3 (a b : Nat) : eqM (subV (a + b) b) a = true := by
  unfold eqM; rw [decide_eq_true_iff, subV_eq]; simp only [modM]; omega
theorem sums4 (a b : Nat) : eqM (subV a b + b) a = true := by
  unfold eqM; rw [decide_eq_true_iff, subV_eq]; simp only [modM]; omega
theorem sums5 (a : Nat) : eqM (subV a a) 0 = true := by
  unfold eqM; rw [decide_eq_true_iff, subV_eq]; simp only [modM]; omega

/-- By how far a place is from another one, clockwise. -/
theorem far (a b : Nat) : subV a b % modM = if b % modM ≤ a % modM then a % modM - b % modM else a % modM + modM - b % modM := by
  rw [subV_mod]
  have h1 := Nat.mod_lt a modM_pos
  have h2 := Nat.mod_lt b modM_pos
  generalize a % modM = x at *
  generalize b % modM = y at *
  simp only [modM] at *
  split <;> omega

theorem open_same (a x b : Nat) : openM a x b = openR a x b := by
  unfold openM openR eqM ltM
  rw [far, far]
  have h1 := Nat.mod_lt a modM_pos
  have h2 := Nat.mod_lt b modM_pos
  have h3 := Nat.mod_lt x modM_pos
  generalize a % modM = a at *
  generalize b % modM = b at *
  generalize x % modM = x at *
  generalize modM = m at *
  by_cases hab : a = b
  · simp [hab]
  · simp only [hab, decide_false, Bool.false_eq_true, if_false]
    by_cases h : a < b
    · simp only [h, decide_true, if_true]
      rw [Bool.eq_iff_iff]
      simp only [Bool.and_eq_true, decide_eq_true_eq, Bool.not_eq_true', decide_eq_false_iff_not]
      split <;> split <;> omega
    · simp only [h, decide_false, Bool.false_eq_true, if_false]
      rw [Bool.eq_iff_iff]
      simp only [Bool.and_eq_true, Bool.or_eq_true, decide_eq_true_eq, Bool.not_eq_true', decide_eq_false_iff_not]
      split <;> split <;> omega

theorem eqM_turn (a b t : Nat) : eqM (a + t) (b + t) = eqM a b := by
  unfold eqM; rw [decide_eq_decide]; simp only [modM]; omega
theorem sub_turn (a b t : Nat) : subV (a + t) (b + t) % modM = subV a b % modM := by
  rw [subV_eq, subV_eq]; simp only [modM]; omega
theorem open_turn (a x b t : Nat) : openM (a + t) (x + t) (b + t) = openM a x b := by
  rw [open_same, open_same]
  unfold openR
  rw [eqM_turn, eqM_turn]
  unfold ltM
  rw [sub_turn, sub_turn]

theorem arcs1 (a b : Nat) : openM a a b = false := by
  unfold openM eqM ltM
  have h1 := Nat.mod_lt a modM_pos
  generalize a % modM = a at *
  generalize b % modM = b at *
  by_cases hab : a = b
  · simp [hab]
  · by_cases h : a < b <;> simp [hab, h]
theorem arcs2 (a b : Nat) : openM a b b = false := by
  unfold openM eqM ltM
  generalize a % modM = a at *
  generalize b % modM = b at *
  by_cases hab : a = b
  · simp [hab]
  · by_cases h : a < b <;> simp [hab, h]
theorem arcs_all (a x b : Nat) (h1 : eqM a x = false) (h2 : eqM x b = false) (h3 : eqM a b = false) : (openM a x b != openM b x a) = true ∧ (openM a x b == openM x b a) = true := by
  unfold openM eqM ltM at *
  generalize a % modM = a at *
  generalize b % modM = b at *
  generalize x % modM = x at *
  simp only [decide_eq_false_iff_not] at h1 h2 h3
  have e1 : ¬ b = a := fun h => h3 h.symm
  have e2 : ¬ x = a := fun h => h1 h.symm
  simp only [h3, e1, e2, decide_false, Bool.false_eq_true, if_false]
  rcases Nat.lt_trichotomy a b with g | g | g
  · rcases Nat.lt_trichotomy a x with k | k | k
    · rcases Nat.lt_trichotomy x b with l | l | l
      · simp [g, k, l, Nat.not_lt.2 (Nat.le_of_lt g), Nat.not_lt.2 (Nat.le_of_lt k), Nat.not_lt.2 (Nat.le_of_lt l)]
      · exact absurd l h2
      · simp [g, k, l, Nat.not_lt.2 (Nat.le_of_lt g), Nat.not_lt.2 (Nat.le_of_lt k), Nat.not_lt.2 (Nat.le_of_lt l)]
    · exact absurd k h1
    · rcases Nat.lt_trichotomy x b with l | l | l
      · simp [g, k, l, Nat.not_lt.2 (Nat.le_of_lt g), Nat.not_lt.2 (Nat.le_of_lt k), Nat.not_lt.2 (Nat.le_of_lt l)]
      · exact absurd l h2
      · omega
  · exact absurd g h3
  · rcases Nat.lt_trichotomy a x with k | k | k
    · rcases Nat.lt_trichotomy x b with l | l | l
      · omega
      · exact absurd l h2
      · simp [g, k, l, Nat.not_lt.2 (Nat.le_of_lt g), Nat.not_lt.2 (Nat.le_of_lt k), Nat.not_lt.2 (Nat.le_of_lt l)]
    · exact absurd k h1
    · rcases Nat.lt_trichotomy x b with l | l | l
      · simp [g, k, l, Nat.not_lt.2 (Nat.le_of_lt g), Nat.not_lt.2 (Nat.le_of_lt k), Nat.not_lt.2 (Nat.le_of_lt l)]
      · exact absurd l h2
      · simp [g, k, l, Nat.not_lt.2 (Nat.le_of_lt g), Nat.not_lt.2 (Nat.le_of_lt k), Nat.not_lt.2 (Nat.le_of_lt l)]
theorem eqM_comm (a b : Nat) : eqM a b = eqM b a := by
  unfold eqM; rw [decide_eq_decide]; exact eq_comm
theorem eqM_right (a b c : Nat) (h : eqM a b = true) : eqM a c = eqM b c := by
  unfold eqM at *; rw [decide_eq_true_iff] at h; rw [h]
theorem open_eq (a x b : Nat) (h : eqM a b = true) : openM a x b = !eqM x a := by unfold openM; rw [if_pos h]

theorem pow_eq (k : Nat) : eqM (2 ^ k + 2 ^ k) (2 ^ (k + 1)) = true := by
  rw [show 2 ^ (k + 1) = 2 ^ k + 2 ^ k from by rw [Nat.pow_succ]; omega]; exact eqM_refl _
theorem pow_lt_M (k : Nat) (h : k < 160) : 2 ^ k < modM := by
  have : 2 ^ k ≤ 2 ^ 159 := Nat.pow_le_pow_right (by omega) (by omega)
  have e : 2 ^ 159 < modM := by decide +kernel
  omega
theorem pow_lt (k : Nat) (h : k < 159) : ltM (2 ^ k) (2 ^ (k + 1)) = true := by
  unfold ltM
  rw [decide_eq_true_iff, Nat.mod_eq_of_lt (pow_lt_M k (by omega)), Nat.mod_eq_of_lt (pow_lt_M (k + 1) (by omega))]
  exact Nat.pow_lt_pow_right (by omega) (by omega)
end Go.Proofs.Ythanfkopioehcaa
