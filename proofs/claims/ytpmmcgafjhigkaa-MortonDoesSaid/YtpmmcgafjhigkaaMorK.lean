/-
  Morton keys: plain laws, continued. A label's box.
-/
import Derived.Test.YtpmmcgafjhigkaaMorE
import Derived.Test.YtpmmcgafjhigkaaMorH
namespace Go.Proofs.Ytpmmcgafjhigkaa
set_option linter.unusedSimpArgs false
set_option linter.unusedVariables false
set_option maxRecDepth 20000

theorem ga_or (a b : Nat) : ga (a ||| b) = ga a ||| ga b := by
  have := ((gt_or 5).comp (and_or 6148914691236517205)).or a b
  rw [ga_eq, ga_eq, ga_eq]; exact this
theorem half_or (a b : Nat) : (a ||| b) / 2 = a / 2 ||| b / 2 := by
  apply Nat.eq_of_testBit_eq
  intro i
  rw [half_bit, Nat.testBit_or, Nat.testBit_or, half_bit, half_bit]
theorem ga_low0 : ∀ e, e < 65 → gt ((2 ^ e - 1) &&& 6148914691236517205) 5 = 2 ^ ((e + 1) / 2) - 1 := by decide +kernel
theorem ga_low (e : Nat) (h : e ≤ 64) : ga (2 ^ e - 1) = 2 ^ ((e + 1) / 2) - 1 := by rw [ga_eq]; exact ga_low0 e (by omega)
theorem half_low (e : Nat) : (2 ^ e - 1) / 2 = 2 ^ (e - 1) - 1 := by
  cases e with
  | zero => rfl
  | succ e => rw [Nat.pow_succ, show e + 1 - 1 = e from rfl]; omega
theorem ga_low2 (e : Nat) (h : e ≤ 64) : ga ((2 ^ e - 1) / 2) = 2 ^ (e / 2) - 1 := by
  rw [half_low, ga_low _ (by omega)]
  cases e with
  | zero => rfl
  | succ e => rw [show e + 1 - 1 + 1 = e + 1 from rfl]
theorem ga_two (e : Nat) (h : e < 64) : ga (2 ^ e) = if e % 2 = 0 then 2 ^ (e / 2) else 0 := by rw [ga_eq]; exact ga_pow e h
theorem ga_two2 (e : Nat) (h : e < 64) : ga (2 ^ e / 2) = if e % 2 = 0 then 0 else 2 ^ (e / 2) := by
  cases e with
  | zero => decide +kernel
  | succ e =>
    rw [Nat.pow_succ, Nat.mul_div_cancel _ (by omega), ga_two _ (by omega)]
    by_cases h2 : e % 2 = 0
    · rw [if_pos h2, if_neg (by omega), show (e + 1) / 2 = e / 2 from by omega]
    · rw [if_neg h2, if_pos (by omega)]
theorem mod_pow_zero (x m : Nat) : x % 2 ^ m = 0 ↔ ∀ i, i < m → x.testBit i = false := by
  constructor
  · intro h i hi
    have := Nat.testBit_mod_two_pow x m i
    rw [h, Nat.zero_testBit, decide_eq_true hi, Bool.true_and] at this
    exact this.symm
  · intro h
    apply Nat.eq_of_testBit_eq
    intro i
    rw [Nat.testBit_mod_two_pow, Nat.zero_testBit]
    by_cases hi : i < m
    · rw [h i hi, Bool.and_false]
    · rw [decide_eq_false hi, Bool.false_and]
theorem div_pow_eq (x y m : Nat) : x / 2 ^ m = y / 2 ^ m ↔ ∀ i, m ≤ i → x.testBit i = y.testBit i := by
  constructor
  · intro h i hi
    have e := Nat.testBit_div_two_pow (n := m) x (i - m)
    have f := Nat.testBit_div_two_pow (n := m) y (i - m)
    rw [show i - m + m = i from by omega] at e f
    rw [← e, ← f, h]
  · intro h
    apply Nat.eq_of_testBit_eq
    intro i
    rw [Nat.testBit_div_two_pow, Nat.testBit_div_two_pow, h _ (by omega)]

theorem ga_mod {k e : Nat} (hk : k < 2 ^ 64) (he : e ≤ 64) (hm : k % 2 ^ e = 0) : ga k % 2 ^ ((e + 1) / 2) = 0 := by
  rw [mod_pow_zero] at hm ⊢
  intro i hi
  rw [ga_bit _ _ hk, hm _ (by omega), Bool.and_false]
theorem ga_mod2 {k e : Nat} (hk : k < 2 ^ 64) (he : e ≤ 64) (hm : k % 2 ^ e = 0) : ga (k / 2) % 2 ^ (e / 2) = 0 := by
  rw [mod_pow_zero] at hm ⊢
  intro i hi
  rw [ga_bit _ _ (by omega), half_bit, hm _ (by omega), Bool.and_false]
theorem ga_top {k e : Nat} (hk : k < 2 ^ 64) (he : e ≤ 64) (hm : k % 2 ^ e = 0) : ga (k + (2 ^ e - 1)) = ga k + (2 ^ ((e + 1) / 2) - 1) := by
  rw [← or_low _ _ hm, ga_or, ga_low e he, or_low _ _ (ga_mod hk he hm)]
theorem ga_top2 {k e : Nat} (hk : k < 2 ^ 64) (he : e ≤ 64) (hm : k % 2 ^ e = 0) : ga ((k + (2 ^ e - 1)) / 2) = ga (k / 2) + (2 ^ (e / 2) - 1) := by
  rw [← or_low _ _ hm, half_or, ga_or, ga_low2 e he, or_low _ _ (ga_mod2 hk he hm)]

/-- A range of whole multiples. -/
theorem range_div (x u A : Nat) (hA : 0 < A) (hx : x % A = 0) : (x ≤ u ∧ u ≤ x + (A - 1)) ↔ u / A = x / A := by
  obtain ⟨q, rfl⟩ : ∃ q, x = A * q := ⟨x / A, (Nat.mul_div_cancel' (Nat.dvd_of_mod_eq_zero hx)).symm⟩
  rw [Nat.mul_div_cancel_left _ hA]
  have h1 := Nat.div_add_mod u A
  have h2 := Nat.mod_lt u hA
  constructor
  · rintro ⟨h3, h4⟩
    have a1 : u / A < q + 1 := Nat.div_lt_of_lt_mul (by rw [Nat.mul_add]; omega)
    have a2 : q ≤ u / A := by rw [Nat.le_div_iff_mul_le hA, Nat.mul_comm]; exact h3
    omega
  · intro h3
    rw [h3] at h1
    omega

/-- A key is covered just if its point is in the box. -/
theorem box_covers (n k z : Nat) (hn : n ≤ 64) (hk : k < 2 ^ 64) (hz : z < 2 ^ 64) (hm : k % 2 ^ (64 - n) = 0) :
    insM (ga k) (ga (hiL n k)) (ga (k / 2)) (ga (hiL n k / 2)) z = (((hd z n : Nat) : Int) == (k : Int)) := by
  rw [Bool.eq_iff_iff, insM_iff, beq_iff_eq, Int.natCast_inj]
  unfold hiL
  have he : 64 - n ≤ 64 := by omega
  rw [ga_top hk he hm, ga_top2 hk he hm]
  have hA : 0 < 2 ^ ((64 - n + 1) / 2) := Nat.pow_pos (by omega)
  have hB : 0 < 2 ^ ((64 - n) / 2) := Nat.pow_pos (by omega)
  have r1 := range_div (ga k) (ga z) _ hA (ga_mod hk he hm)
  have r2 := range_div (ga (k / 2)) (ga (z / 2)) _ hB (ga_mod2 hk he hm)
  have hh : hd z n = k ↔ z / 2 ^ (64 - n) = k / 2 ^ (64 - n) := by
    rw [hd_eq]
    have hp : 0 < 2 ^ (64 - n) := Nat.pow_pos (by omega)
    have hk2 : k / 2 ^ (64 - n) * 2 ^ (64 - n) = k := Nat.div_mul_cancel (Nat.dvd_of_mod_eq_zero hm)
    constructor
    · intro h
      have : z / 2 ^ (64 - n) * 2 ^ (64 - n) = k / 2 ^ (64 - n) * 2 ^ (64 - n) := h.trans hk2.symm
      exact Nat.eq_of_mul_eq_mul_right hp this
    · intro h; rw [h]; exact hk2
  rw [hh, ← and_assoc, r1, r2, div_pow_eq, div_pow_eq, div_pow_eq]
  constructor
  · rintro ⟨h1, h2⟩ i hi
    by_cases hi64 : i < 64
    · rcases (show i % 2 = 0 ∨ i % 2 = 1 by omega) with h | h
      · have := h1 (i / 2) (by omega)
        rw [ga_bit _ _ hz, ga_bit _ _ hk, decide_eq_true (show i / 2 < 32 by omega), Bool.true_and, Bool.true_and, show 2 * (i / 2) = i from by omega] at this
        exact this
      · have := h2 (i / 2) (by omega)
        rw [ga_bit _ _ (by omega), ga_bit _ _ (by omega), half_bit, half_bit, decide_eq_true (show i / 2 < 32 by omega), Bool.true_and, Bool.true_and, show 2 * (i / 2) + 1 = i from by omega] at this
        exact this
    · rw [Nat.testBit_lt_two_pow (Nat.lt_of_lt_of_le hz (Nat.pow_le_pow_right (by omega) (show 64 ≤ i by omega))), Nat.testBit_lt_two_pow (Nat.lt_of_lt_of_le hk (Nat.pow_le_pow_right (by omega) (show 64 ≤ i by omega)))]
  · intro h
    refine ⟨fun j hj => ?_, fun j hj => ?_⟩
    · rw [ga_bit _ _ hz, ga_bit _ _ hk, h _ (by omega)]
    · rw [ga_bit _ _ (by omega), ga_bit _ _ (by omega), half_bit, half_bit, h _ (by omega)]

theorem or_two (x m : Nat) (h : x % 2 ^ (m + 1) = 0) : x ||| 2 ^ m = x + 2 ^ m := by
  obtain ⟨q, rfl⟩ : ∃ q, x = 2 ^ (m + 1) * q := ⟨x / 2 ^ (m + 1), (Nat.mul_div_cancel' (Nat.dvd_of_mod_eq_zero h)).symm⟩
  rw [Nat.two_pow_add_eq_or_of_lt (pow_half' m)]
where pow_half' (m : Nat) : 2 ^ m < 2 ^ (m + 1) := Nat.pow_lt_pow_right (by omega) (by omega)
theorem mod_of_le (x a b : Nat) (hab : a ≤ b) (h : x % 2 ^ b = 0) : x % 2 ^ a = 0 := by
  rw [mod_pow_zero] at h ⊢
  exact fun i hi => h i (by omega)
theorem ga_lt_sum (n k : Nat) (hn : n ≤ 64) (hk : k < 2 ^ 64) (hm : k % 2 ^ (64 - n) = 0) : ga k + (2 ^ ((64 - n + 1) / 2) - 1) < 2 ^ 32 ∧ ga (k / 2) + (2 ^ ((64 - n) / 2) - 1) < 2 ^ 32 := by
  have h1 := ga_lt (hiL n k)
  have h2 := ga_lt (hiL n k / 2)
  unfold hiL at h1 h2
  rw [ga_top hk (by omega) hm] at h1
  rw [ga_top2 hk (by omega) hm] at h2
  exact ⟨h1, h2⟩

/-- The boxes of the children: one half each, of one side or of the other one. -/
def Halved (b1 b2 b3 b4 c1 c2 c3 c4 d1 d2 d3 d4 : Nat) : Prop :=
  (∃ m p, p = m + 1 ∧ p < 2 ^ 32 ∧ m ≠ b2 ∧ (c1 = b1 ∧ c2 = m ∧ c3 = b3 ∧ c4 = b4) ∧ (d1 = p ∧ d2 = b2 ∧ d3 = b3 ∧ d4 = b4)) ∨
  (∃ m p, p = m + 1 ∧ p < 2 ^ 32 ∧ m ≠ b4 ∧ (c1 = b1 ∧ c2 = b2 ∧ c3 = b3 ∧ c4 = m) ∧ (d1 = b1 ∧ d2 = b2 ∧ d3 = p ∧ d4 = b4))
theorem halved (n k : Nat) (hn : n < 64) (hk : k < 2 ^ 64) (hm : k % 2 ^ (64 - n) = 0) :
    Halved (ga k) (ga (hiL n k)) (ga (k / 2)) (ga (hiL n k / 2)) (ga k) (ga (hiL (n + 1) k)) (ga (k / 2)) (ga (hiL (n + 1) k / 2)) (ga (kid k n)) (ga (hiL (n + 1) (kid k n))) (ga (kid k n / 2)) (ga (hiL (n + 1) (kid k n) / 2)) := by
  have hlt := ga_lt_sum n k (by omega) hk hm
  have e1 : 64 - (n + 1) = 63 - n := by omega
  have e2 : 64 - n = 63 - n + 1 := by omega
  have hk2 : kid k n = k + 2 ^ (63 - n) := kid_eq k n
  have hkid : kid k n = k ||| 2 ^ (63 - n) := by rw [hk2, or_two]; rw [← e2]; exact hm
  have hkl : kid k n < 2 ^ 64 := by rw [hkid]; exact Nat.or_lt_two_pow hk (pow64_lt _ (by omega))
  have hm1 : k % 2 ^ (63 - n) = 0 := mod_of_le k _ _ (by omega) hm
  have hm2 : kid k n % 2 ^ (63 - n) = 0 := by rw [hk2, Nat.add_mod_right, hm1]
  unfold hiL
  rw [e1, ga_top hk (by omega) hm, ga_top2 hk (by omega) hm, ga_top hk (by omega) hm1, ga_top2 hk (by omega) hm1, ga_top hkl (by omega) hm2, ga_top2 hkl (by omega) hm2]
  have g1 : ga (kid k n) = ga k ||| (if (63 - n) % 2 = 0 then 2 ^ ((63 - n) / 2) else 0) := by rw [hkid, ga_or, ga_two _ (by omega)]
  have g2 : ga (kid k n / 2) = ga (k / 2) ||| (if (63 - n) % 2 = 0 then 0 else 2 ^ ((63 - n) / 2)) := by rw [hkid, half_or, ga_or, ga_two2 _ (by omega)]
  have hX := ga_mod hk (show 64 - n ≤ 64 by omega) hm
  have hY := ga_mod2 hk (show 64 - n ≤ 64 by omega) hm
  rw [e2] at hX hY hlt ⊢
  generalize 63 - n = e at *
  obtain ⟨j, hj⟩ : ∃ j, e / 2 = j := ⟨_, rfl⟩
  have hp : 0 < 2 ^ j := Nat.pow_pos (by omega)
  by_cases h : e % 2 = 0
  · rw [if_pos h] at g1 g2
    rw [show (e + 1 + 1) / 2 = j + 1 from by omega] at hX hlt ⊢
    rw [show (e + 1) / 2 = j from by omega] at hY hlt ⊢
    rw [hj] at g1 ⊢
    rw [or_two _ _ hX] at g1
    rw [Nat.or_zero] at g2
    rw [g1, g2]
    rw [Nat.pow_succ] at hlt ⊢
    exact Or.inl ⟨_, ga k + 2 ^ j, by omega, by omega, by omega, ⟨rfl, rfl, rfl, rfl⟩, by omega, by omega, rfl, rfl⟩
  · rw [if_neg h] at g1 g2
    rw [show (e + 1 + 1) / 2 = j + 1 from by omega] at hX hlt ⊢
    rw [show (e + 1) / 2 = j + 1 from by omega] at hY hlt ⊢
    rw [hj] at g2 ⊢
    rw [or_two _ _ hY] at g2
    rw [Nat.or_zero] at g1
    rw [g1, g2]
    rw [Nat.pow_succ] at hlt ⊢
    exact Or.inr ⟨_, ga (k / 2) + 2 ^ j, by omega, by omega, by omega, ⟨rfl, rfl, rfl, rfl⟩, rfl, rfl, by omega, by omega⟩
/-- A label's box has points, and is held by itself. -/
theorem box_is (n k : Nat) (hn : n ≤ 64) (hk : k < 2 ^ 64) (hm : k % 2 ^ (64 - n) = 0) : isR (ga k) (ga (hiL n k)) (ga (k / 2)) (ga (hiL n k / 2)) = true := by
  unfold isR hiL
  rw [ga_top hk (by omega) hm, ga_top2 hk (by omega) hm]
  simp
theorem box_holds (n k : Nat) (hn : n ≤ 64) (hk : k < 2 ^ 64) (hm : k % 2 ^ (64 - n) = 0) : holdsM (ga k) (ga (hiL n k)) (ga (k / 2)) (ga (hiL n k / 2)) n k = true := by
  have h := box_is n k hn hk hm
  unfold holdsM meetsM bothB
  rw [Nat.max_self, Nat.min_self, Nat.max_self, Nat.min_self, h]
  simp [eqR]
end Go.Proofs.Ytpmmcgafjhigkaa
