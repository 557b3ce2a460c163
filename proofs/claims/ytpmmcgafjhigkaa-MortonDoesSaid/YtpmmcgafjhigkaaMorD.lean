/-
  Morton keys: plain laws. What the steps of spread and gather make of a number's bits.
-/
import Derived.Test.YtpmmcgafjhigkaaMorB
namespace Go.Proofs.Ytpmmcgafjhigkaa
set_option linter.unusedSimpArgs false
set_option linter.unusedVariables false
set_option maxRecDepth 20000

theorem mod_split (x n : Nat) : x % 2 ^ (n + 1) = x % 2 ^ n ||| (if x.testBit n then 2 ^ n else 0) := by
  apply Nat.eq_of_testBit_eq
  intro i
  rw [Nat.testBit_or, Nat.testBit_mod_two_pow, Nat.testBit_mod_two_pow]
  by_cases h : n = i
  · subst h
    cases hb : x.testBit n <;> simp [hb, Nat.testBit_two_pow]
  · have e : (decide (i < n + 1)) = decide (i < n) := by rw [Bool.eq_iff_iff]; simp only [decide_eq_true_eq]; omega
    rw [e]
    cases hb : x.testBit n <;> simp [h, Nat.testBit_two_pow]

/-- A map that takes OR to OR. -/
structure OrMap (f : Nat → Nat) : Prop where
  zero : f 0 = 0
  or : ∀ a b, f (a ||| b) = f a ||| f b

theorem OrMap.bits {f : Nat → Nat} (hf : OrMap f) (x j : Nat) : ∀ n, (f (x % 2 ^ n)).testBit j = ((List.range n).any fun i => x.testBit i && (f (2 ^ i)).testBit j)
  | 0 => by simp [Nat.mod_one, hf.zero]
  | n + 1 => by
    rw [mod_split, hf.or, Nat.testBit_or, OrMap.bits hf x j n, List.range_succ, List.any_append]
    cases hb : x.testBit n <;> simp [hb, hf.zero]

theorem spStep_or (s m : Nat) : OrMap (spStep s m) := by
  refine ⟨by simp [spStep], fun a b => ?_⟩
  unfold spStep
  apply Nat.eq_of_testBit_eq
  intro i
  simp only [Nat.testBit_and, Nat.testBit_or, Nat.testBit_mod_two_pow, Nat.testBit_mul_two_pow]
  cases m.testBit i <;> cases a.testBit i <;> cases b.testBit i <;> cases decide (i < 64) <;> cases decide (s ≤ i) <;> cases a.testBit (i - s) <;> cases b.testBit (i - s) <;> rfl
theorem gtStep_or (s m : Nat) : OrMap (gtStep s m) := by
  refine ⟨by simp [gtStep], fun a b => ?_⟩
  unfold gtStep
  apply Nat.eq_of_testBit_eq
  intro i
  simp only [Nat.testBit_and, Nat.testBit_or, Nat.testBit_div_two_pow]
  cases m.testBit i <;> cases a.testBit i <;> cases b.testBit i <;> cases a.testBit (i + s) <;> cases b.testBit (i + s) <;> rfl
theorem OrMap.comp {f g : Nat → Nat} (hf : OrMap f) (hg : OrMap g) : OrMap fun x => f (g x) := ⟨by rw [hg.zero, hf.zero], fun a b => by rw [hg.or, hf.or]⟩
theorem sp_or : ∀ k, OrMap fun v => sp v k
  | 0 => ⟨rfl, fun _ _ => rfl⟩
  | k + 1 => (spStep_or _ _).comp (sp_or k)
theorem gt_or : ∀ k, OrMap fun v => gt v k
  | 0 => ⟨rfl, fun _ _ => rfl⟩
  | k + 1 => (gtStep_or _ _).comp (gt_or k)
theorem and_or (m : Nat) : OrMap fun z => z &&& m := ⟨Nat.zero_and _, fun a b => by
  apply Nat.eq_of_testBit_eq
  intro i
  simp only [Nat.testBit_and, Nat.testBit_or]
  cases m.testBit i <;> cases a.testBit i <;> cases b.testBit i <;> rfl⟩

theorem sp_pow : ∀ i, i < 32 → sp (2 ^ i) 5 = 2 ^ (2 * i) := by decide +kernel
theorem ga_pow : ∀ i, i < 64 → gt (2 ^ i &&& 6148914691236517205) 5 = if i % 2 = 0 then 2 ^ (i / 2) else 0 := by decide +kernel

/-- Bit j of a spread number. -/
theorem sp_bit (x j : Nat) (hx : x < 2 ^ 32) : (sp x 5).testBit j = (decide (j % 2 = 0) && x.testBit (j / 2)) := by
  have h := (sp_or 5).bits x j 32
  rw [Nat.mod_eq_of_lt hx] at h
  rw [h, Bool.eq_iff_iff]
  simp only [List.any_eq_true, List.mem_range, Bool.and_eq_true, decide_eq_true_eq]
  constructor
  · rintro ⟨i, hi, hxi, hj⟩
    rw [sp_pow i hi, Nat.testBit_two_pow, decide_eq_true_eq] at hj
    subst hj
    exact ⟨by omega, by rw [show 2 * i / 2 = i from by omega]; exact hxi⟩
  · rintro ⟨hj, hxj⟩
    have hlt : j / 2 < 32 := by
      apply Decidable.byContradiction
      intro hge
      rw [Nat.testBit_lt_two_pow (Nat.lt_of_lt_of_le hx (Nat.pow_le_pow_right (by omega) (show 32 ≤ j / 2 by omega)))] at hxj
      cases hxj
    exact ⟨j / 2, hlt, hxj, by rw [sp_pow _ hlt, Nat.testBit_two_pow, decide_eq_true_eq]; omega⟩
theorem ga_bit (z j : Nat) (hz : z < 2 ^ 64) : (ga z).testBit j = (decide (j < 32) && z.testBit (2 * j)) := by
  have h := ((gt_or 5).comp (and_or 6148914691236517205)).bits z j 64
  rw [Nat.mod_eq_of_lt hz] at h
  rw [ga_eq, h, Bool.eq_iff_iff]
  simp only [List.any_eq_true, List.mem_range, Bool.and_eq_true, decide_eq_true_eq]
  constructor
  · rintro ⟨i, hi, hzi, hj⟩
    rw [ga_pow i hi] at hj
    split at hj
    · rw [Nat.testBit_two_pow, decide_eq_true_eq] at hj
      exact ⟨by omega, by rw [show 2 * j = i from by omega]; exact hzi⟩
    · simp at hj
  · rintro ⟨hj, hzj⟩
    refine ⟨2 * j, by omega, hzj, ?_⟩
    rw [ga_pow _ (by omega), if_pos (by omega), Nat.testBit_two_pow, decide_eq_true_eq]
    omega
/-- Bit j of a key. -/
theorem wv_bit (x y j : Nat) (hx : x < 2 ^ 32) (hy : y < 2 ^ 32) : (wv x y).testBit j = if j % 2 = 0 then x.testBit (j / 2) else y.testBit (j / 2) := by
  rw [wv_eq, Nat.testBit_or, sp_bit x j hx, Nat.testBit_mod_two_pow]
  rw [show sp y 5 * 2 = sp y 5 * 2 ^ 1 from rfl, Nat.testBit_mul_two_pow]
  by_cases h : j % 2 = 0
  · rw [if_pos h, decide_eq_true h, Bool.true_and]
    by_cases h1 : 1 ≤ j
    · rw [sp_bit y _ hy, decide_eq_false (show ¬ (j - 1) % 2 = 0 by omega)]; simp
    · rw [decide_eq_false h1]; simp
  · rw [if_neg h, decide_eq_false h, Bool.false_and, Bool.false_or, decide_eq_true (show 1 ≤ j by omega), sp_bit y _ hy, decide_eq_true (show (j - 1) % 2 = 0 by omega), show (j - 1) / 2 = j / 2 from by omega]
    by_cases h64 : j < 64
    · rw [decide_eq_true h64]; simp
    · rw [decide_eq_false h64, Nat.testBit_lt_two_pow (Nat.lt_of_lt_of_le hy (Nat.pow_le_pow_right (by omega) (show 32 ≤ j / 2 by omega)))]
      rfl
theorem half_bit (z j : Nat) : (z / 2).testBit j = z.testBit (j + 1) := by
  rw [show z / 2 = z / 2 ^ 1 from rfl, Nat.testBit_div_two_pow]
theorem ga_wv (x y : Nat) (hx : x < 2 ^ 32) (hy : y < 2 ^ 32) (hw : wv x y < 2 ^ 64) : ga (wv x y) = x ∧ ga (wv x y / 2) = y := by
  have far : ∀ v j : Nat, v < 2 ^ 32 → ¬ j < 32 → v.testBit j = false := fun v j hv h => Nat.testBit_lt_two_pow (Nat.lt_of_lt_of_le hv (Nat.pow_le_pow_right (by omega) (by omega)))
  constructor
  · apply Nat.eq_of_testBit_eq
    intro j
    rw [ga_bit _ _ hw, wv_bit x y _ hx hy, if_pos (by omega), show 2 * j / 2 = j from by omega]
    by_cases h : j < 32
    · simp [h]
    · rw [far x j hx h]; simp
  · apply Nat.eq_of_testBit_eq
    intro j
    rw [ga_bit _ _ (by omega), half_bit, wv_bit x y _ hx hy, if_neg (by omega), show (2 * j + 1) / 2 = j from by omega]
    by_cases h : j < 32
    · simp [h]
    · rw [far y j hy h]; simp
theorem wv_ga (z : Nat) (hz : z < 2 ^ 64) : wv (ga z) (ga (z / 2)) = z := by
  have far : ∀ j : Nat, ¬ j < 64 → z.testBit j = false := fun j h => Nat.testBit_lt_two_pow (Nat.lt_of_lt_of_le hz (Nat.pow_le_pow_right (by omega) (by omega)))
  apply Nat.eq_of_testBit_eq
  intro j
  rw [wv_bit _ _ _ (ga_lt _) (ga_lt _), ga_bit _ _ hz, ga_bit _ _ (by omega), half_bit]
  by_cases h : j % 2 = 0
  · rw [if_pos h, show 2 * (j / 2) = j from by omega]
    by_cases h64 : j < 64
    · rw [decide_eq_true (show j / 2 < 32 by omega)]; simp
    · rw [far j h64]; simp
  · rw [if_neg h, show 2 * (j / 2) + 1 = j from by omega]
    by_cases h64 : j < 64
    · rw [decide_eq_true (show j / 2 < 32 by omega)]; simp
    · rw [far j h64]; simp
end Go.Proofs.Ytpmmcgafjhigkaa
