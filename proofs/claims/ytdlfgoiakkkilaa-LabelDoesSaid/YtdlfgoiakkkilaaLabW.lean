/-
  Labels: plain laws. A label's keys are a range; ranges of labels lie within each other, or apart.
-/
import Derived.Test.YtdlfgoiakkkilaaLabU
namespace Go.Proofs.Ytdlfgoiakkkilaa
set_option linter.unusedSimpArgs false
set_option linter.unusedVariables false
set_option maxRecDepth 20000

theorem rangeD (x u A : Nat) (hA : 0 < A) (hx : x % A = 0) : (x ≤ u ∧ u ≤ x + (A - 1)) ↔ u / A = x / A := by
  obtain ⟨q, rfl⟩ : ∃ q, x = A * q := ⟨x / A, (Nat.mul_div_cancel' (Nat.dvd_of_mod_eq_zero hx)).symm⟩
  rw [Nat.mul_div_cancel_left _ hA]
  have h1 := Nat.div_add_mod u A
  have h2 := Nat.mod_lt u hA
  constructor
  · rintro ⟨h3, h4⟩
    have a1 : u / A < q + 1 := Nat.div_lt_of_lt_mul (by rw [Nat.mul_add]; omega)
    have a2 : q ≤ u / A := by rw [Nat.le_div_iff_mul_le hA, Nat.mul_comm]; exact h3
    omega
  · intro h3
    rw [h3] at h1
    omega
theorem hd_range (n b u : Nat) (hm : b % 2 ^ (64 - n) = 0) : hd u n = b ↔ b ≤ u ∧ u ≤ hiL n b := by
  have hp : 0 < 2 ^ (64 - n) := Nat.pow_pos (by omega)
  unfold hiL
  rw [rangeD b u _ hp hm, hd_eq]
  have hb := top_mul n b hm
  constructor
  · intro h; exact Nat.eq_of_mul_eq_mul_right hp (h.trans hb.symm)
  · intro h; rw [h]; exact hb
theorem cov_range (n b u : Nat) (hm : b % 2 ^ (64 - n) = 0) : (((hd u n : Nat) : Int) == (b : Int)) = (decide (b ≤ u) && decide (u ≤ hiL n b)) := by
  rw [Bool.eq_iff_iff, beq_iff_eq, Int.natCast_inj, hd_range n b u hm, Bool.and_eq_true, decide_eq_true_iff, decide_eq_true_iff]
theorem isL_mk (n k : Nat) (hn : n ≤ 64) (hm : k % 2 ^ (64 - n) = 0) : isL (n : Int) k = true := by
  rw [isL_iff]
  refine ⟨by omega, by omega, ?_⟩
  rw [Int.toNat_natCast, hd_eq]
  exact top_mul n k hm
theorem hd_aligned (u n : Nat) : hd u n % 2 ^ (64 - n) = 0 := by rw [hd_eq]; exact Nat.mul_mod_left _ _

/-- Ranges of whole multiples, the one's length a multiple of the other one's. -/
theorem nested (P R b c : Nat) (hP : 0 < P) (hR : 0 < R) (hb : b % P = 0) (hc : c % (P * R) = 0) (h1 : c ≤ b + (P - 1)) (h2 : b ≤ c + (P * R - 1)) : c ≤ b ∧ b + (P - 1) ≤ c + (P * R - 1) := by
  obtain ⟨β, rfl⟩ : ∃ q, b = P * q := ⟨b / P, (Nat.mul_div_cancel' (Nat.dvd_of_mod_eq_zero hb)).symm⟩
  obtain ⟨γ, rfl⟩ : ∃ q, c = P * R * q := ⟨c / (P * R), (Nat.mul_div_cancel' (Nat.dvd_of_mod_eq_zero hc)).symm⟩
  rw [Nat.mul_assoc] at *
  have hPR : 0 < P * R := Nat.mul_pos hP hR
  have g1 : R * γ < β + 1 := by
    refine Nat.lt_of_mul_lt_mul_left (a := P) ?_
    rw [Nat.mul_add]; omega
  have g2 : β < R * γ + R := by
    refine Nat.lt_of_mul_lt_mul_left (a := P) ?_
    rw [Nat.mul_add]; omega
  have g3 := Nat.mul_le_mul_left P (show R * γ ≤ β by omega)
  have g4 := Nat.mul_le_mul_left P (show β + 1 ≤ R * γ + R by omega)
  rw [Nat.mul_add, Nat.mul_add] at g4
  omega
theorem pow_split (n k : Nat) (hn : n ≤ 64) (h : k ≤ n) : 2 ^ (64 - k) = 2 ^ (64 - n) * 2 ^ (n - k) := by rw [← Nat.pow_add]; congr 1; omega
theorem nestedL (n b k c : Nat) (hn : n ≤ 64) (hk : k ≤ n) (hb : b % 2 ^ (64 - n) = 0) (hc : c % 2 ^ (64 - k) = 0) (h1 : c ≤ hiL n b) (h2 : b ≤ hiL k c) : c ≤ b ∧ hiL n b ≤ hiL k c := by
  unfold hiL at *
  rw [pow_split n k hn hk] at *
  exact nested _ _ b c (Nat.pow_pos (by omega)) (Nat.pow_pos (by omega)) hb hc h1 h2
theorem hi_ge (n b : Nat) : b ≤ hiL n b := by unfold hiL; omega
theorem size_le (n b k c : Nat) (hk : k ≤ 64) (h1 : c ≤ b) (h2 : hiL n b ≤ hiL k c) : k ≤ n ∨ 64 ≤ n := by
  apply Decidable.byContradiction
  intro h
  have hlt : 2 ^ (64 - k) < 2 ^ (64 - n) := Nat.pow_lt_pow_right (by omega) (by omega)
  have hp : 0 < 2 ^ (64 - k) := Nat.pow_pos (by omega)
  unfold hiL at h2
  omega
theorem within_range (n b k c : Nat) (hl : isL (n : Int) b = true) (hl' : isL (k : Int) c = true) (hn : n ≤ 64) (hk : k ≤ 64) : withinM (n : Int) b (k : Int) c = (decide (c ≤ b) && decide (hiL n b ≤ hiL k c)) := by
  have hb := isL_mod n b hl
  have hc := isL_mod k c hl'
  unfold withinM
  rw [hl, hl', Bool.true_and, Bool.true_and, Int.toNat_natCast, Bool.eq_iff_iff]
  simp only [Bool.and_eq_true, decide_eq_true_eq]
  rw [hd_range k c b hc]
  constructor
  · rintro ⟨h1, h2, h3⟩
    exact nestedL n b k c hn (by omega) hb hc (by have := hi_ge n b; omega) h3
  · rintro ⟨h1, h2⟩
    have := hi_ge n b
    have := size_le n b k c hk h1 h2
    exact ⟨by omega, h1, by omega⟩
theorem meets_range (n b k c : Nat) (hl : isL (n : Int) b = true) (hl' : isL (k : Int) c = true) (hn : n ≤ 64) (hk : k ≤ 64) :
    (decide (b ≤ hiL k c) && decide (c ≤ hiL n b)) = (withinM (n : Int) b (k : Int) c || withinM (k : Int) c (n : Int) b) := by
  have hb := isL_mod n b hl
  have hc := isL_mod k c hl'
  have g1 := hi_ge n b
  have g2 := hi_ge k c
  rw [within_range n b k c hl hl' hn hk, within_range k c n b hl' hl hk hn, Bool.eq_iff_iff]
  simp only [Bool.and_eq_true, Bool.or_eq_true, decide_eq_true_eq]
  constructor
  · rintro ⟨h1, h2⟩
    by_cases h : k ≤ n
    · exact Or.inl (nestedL n b k c hn h hb hc h2 h1)
    · exact Or.inr (nestedL k c n b hk (by omega) hc hb h1 h2)
  · rintro (⟨h1, h2⟩ | ⟨h1, h2⟩)
    · exact ⟨by omega, by omega⟩
    · exact ⟨by omega, by omega⟩

/-! Children. -/
section
variable {n b : Nat} (hn : n < 64) (hb : b < 2 ^ 64) (hm : b % 2 ^ (64 - n) = 0)
include hn hm
theorem bit_off : b.testBit (63 - n) = false := by
  have h : b % 2 ^ (63 - n + 1) = 0 := by rw [show 63 - n + 1 = 64 - n from by omega]; exact hm
  have := Nat.testBit_mod_two_pow b (63 - n + 1) (63 - n)
  rw [h, Nat.zero_testBit, decide_eq_true (Nat.lt_succ_self _), Bool.true_and] at this
  exact this.symm
theorem kid_or : kid b n = b ||| 2 ^ (63 - n) := by rw [kid_eq, or_bit b n hm hn]
theorem sib_one : sib b (n + 1) = kid b n := by
  rw [kid_or hn hm, sib_eq, show 64 - (n + 1) = 63 - n from by omega]
  have h := bit_off hn hm
  apply Nat.eq_of_testBit_eq
  intro i
  rw [Nat.testBit_xor, Nat.testBit_or, Nat.testBit_two_pow]
  by_cases hi : 63 - n = i
  · subst hi; rw [h]; simp
  · rw [decide_eq_false hi]; simp
theorem sib_two : sib (kid b n) (n + 1) = b := by
  rw [kid_or hn hm, sib_eq, show 64 - (n + 1) = 63 - n from by omega]
  have h := bit_off hn hm
  apply Nat.eq_of_testBit_eq
  intro i
  rw [Nat.testBit_xor, Nat.testBit_or, Nat.testBit_two_pow]
  by_cases hi : 63 - n = i
  · subst hi; rw [h]; simp
  · rw [decide_eq_false hi]; simp
include hb
theorem par_of (x : Nat) (hx : x < 2 ^ 64) (h : ∀ i, i ≠ 63 - n → x.testBit i = b.testBit i) : par x (n + 1) = b := by
  have hp := pow64_lt (63 - n) (by omega)
  have h0 := bit_off hn hm
  rw [par_eq, show 64 - (n + 1) = 63 - n from by omega, show 2 ^ 64 - 1 - 2 ^ (63 - n) = 2 ^ 64 - (2 ^ (63 - n) + 1) from by omega]
  apply Nat.eq_of_testBit_eq
  intro i
  rw [Nat.testBit_and, Nat.testBit_two_pow_sub_succ hp, Nat.testBit_two_pow]
  by_cases hi : 63 - n = i
  · subst hi; rw [h0]; simp
  · rw [decide_eq_false hi, h i (fun e => hi e.symm)]
    by_cases h64 : i < 64
    · rw [decide_eq_true h64]; simp
    · rw [Nat.testBit_lt_two_pow (Nat.lt_of_lt_of_le hb (Nat.pow_le_pow_right (by omega) (show 64 ≤ i by omega)))]; rfl
theorem kid_lt : kid b n < 2 ^ 64 := by rw [kid_or hn hm]; exact Nat.or_lt_two_pow hb (pow64_lt _ (by omega))
theorem par_one : par b (n + 1) = b := par_of hn hb hm b hb fun _ _ => rfl
theorem par_two : par (kid b n) (n + 1) = b := par_of hn hb hm _ (kid_lt hn hb hm) fun i hi => by
  rw [kid_or hn hm, Nat.testBit_or, Nat.testBit_two_pow, decide_eq_false (fun e => hi e.symm), Bool.or_false]
end
theorem mod_down (b n : Nat) (hn : n < 64) (hm : b % 2 ^ (64 - n) = 0) : b % 2 ^ (64 - (n + 1)) = 0 := by
  rw [show 64 - n = 64 - (n + 1) + 1 from by omega, Nat.pow_succ] at hm
  exact Nat.mod_eq_zero_of_dvd (Nat.dvd_trans (Nat.dvd_mul_right _ _) (Nat.dvd_of_mod_eq_zero hm))
theorem kid_mod (b n : Nat) (hn : n < 64) (hm : b % 2 ^ (64 - n) = 0) : kid b n % 2 ^ (64 - (n + 1)) = 0 := by
  have := mod_down b n hn hm
  rw [kid_eq, show 64 - (n + 1) = 63 - n from by omega] at *
  rw [Nat.add_mod_right]; exact this
theorem hi_one (b n : Nat) (hn : n < 64) : hiL (n + 1) b + 1 = kid b n := by
  have hp : 0 < 2 ^ (63 - n) := Nat.pow_pos (by omega)
  unfold hiL
  rw [kid_eq, show 64 - (n + 1) = 63 - n from by omega]; omega
theorem hi_two (b n : Nat) (hn : n < 64) : hiL (n + 1) (kid b n) = hiL n b := by
  have hp : 0 < 2 ^ (63 - n) := Nat.pow_pos (by omega)
  unfold hiL
  rw [kid_eq, show 64 - (n + 1) = 63 - n from by omega, show 64 - n = 63 - n + 1 from by omega, Nat.pow_succ]; omega
end Go.Proofs.Ytdlfgoiakkkilaa
