/-
  Labels, continued: Covers, Span, Child.
-/
import Derived.Test.YtijkmbebfodhdaaMem6
import Derived.Test.YtijkmbebfodhdaaLabA
namespace Go.Proofs.Ytijkmbebfodhdaa
open Go.RowKit
set_option linter.unusedSimpArgs false
set_option linter.unusedVariables false
set_option maxHeartbeats 400000
set_option maxRecDepth 20000
attribute [local irreducible] wpQuiet wpList wpAnyH Calls

theorem is_true (len : Int) (b : Nat) (hb : b < 2 ^ 64) (h : isL len b = true) (w : World) :
    Calls Try.prog 33 #[labV len b] w fun e w' => e = .returned (.bool true) ∧ Ext w w' := by
  have := is_c len b hb w; rw [h] at this; exact this
theorem is_false (len : Int) (b : Nat) (hb : b < 2 ^ 64) (h : isL len b = false) (w : World) :
    Calls Try.prog 33 #[labV len b] w fun e w' => e = .returned (.bool false) ∧ Ext w w' := by
  have := is_c len b hb w; rw [h] at this; exact this
theorem built_zeroL : Try.prog.built 26 [] = some #[.int .i64 0, .int .u64 0] := by kernel_rfl

/-- The highest key of a label. -/
def hiL (n b : Nat) : Nat := b + (2 ^ (64 - n) - 1)
theorem or_low (b k : Nat) (h : b % 2 ^ k = 0) : b ||| (2 ^ k - 1) = b + (2 ^ k - 1) := by
  have hp : 0 < 2 ^ k := Nat.pow_pos (by omega)
  obtain ⟨q, rfl⟩ : ∃ q, b = 2 ^ k * q := ⟨b / 2 ^ k, by have := Nat.div_add_mod b (2 ^ k); omega⟩
  rw [Nat.two_pow_add_eq_or_of_lt (show 2 ^ k - 1 < 2 ^ k by omega)]
theorem hd_mod (b n : Nat) (h : hd b n = b) : b % 2 ^ (64 - n) = 0 := by rw [← h, hd_eq]; exact Nat.mul_mod_left _ _
theorem isL_mod (n b : Nat) (hl : isL (n : Int) b = true) : b % 2 ^ (64 - n) = 0 := hd_mod b n (by have := ((isL_iff _ _).1 hl).2.2; simpa using this)
theorem pow64_le (k : Nat) (h : k ≤ 64) : 2 ^ k ≤ 2 ^ 64 := Nat.pow_le_pow_right (by omega) h
theorem hiL_lt (n b : Nat) (hl : isL (n : Int) b = true) (hn : n ≤ 64) (hb : b < 2 ^ 64) : hiL n b < 2 ^ 64 := by
  have h := isL_mod n b hl
  have hp : 0 < 2 ^ (64 - n) := Nat.pow_pos (by omega)
  obtain ⟨q, rfl⟩ : ∃ q, b = 2 ^ (64 - n) * q := ⟨b / 2 ^ (64 - n), by have := Nat.div_add_mod b (2 ^ (64 - n)); omega⟩
  unfold hiL
  have hq : q < 2 ^ n := by
    refine Nat.lt_of_mul_lt_mul_left (a := 2 ^ (64 - n)) ?_
    rw [← Nat.pow_add, show 64 - n + n = 64 from by omega]; exact hb
  have := Nat.mul_le_mul_left (2 ^ (64 - n)) (show q + 1 ≤ 2 ^ n from hq)
  rw [← Nat.pow_add, show 64 - n + n = 64 from by omega, Nat.mul_add] at this
  omega

theorem pow64_lt (k : Nat) (h : k < 64) : 2 ^ k < 2 ^ 64 := Nat.pow_lt_pow_right (by omega) h
theorem or_bit (b n : Nat) (h : b % 2 ^ (64 - n) = 0) (hn : n < 64) : b ||| 2 ^ (63 - n) = b + 2 ^ (63 - n) := by
  have hp : 0 < 2 ^ (63 - n) := Nat.pow_pos (by omega)
  rw [show 64 - n = 63 - n + 1 from by omega] at h
  obtain ⟨q, rfl⟩ : ∃ q, b = 2 ^ (63 - n + 1) * q := ⟨b / 2 ^ (63 - n + 1), (Nat.mul_div_cancel' (Nat.dvd_of_mod_eq_zero h)).symm⟩
  rw [Nat.two_pow_add_eq_or_of_lt (show 2 ^ (63 - n) < 2 ^ (63 - n + 1) by rw [Nat.pow_succ]; omega)]

/-- The bits of the second child. -/
@[irreducible] def kid (b n : Nat) : Nat := b + 2 ^ (63 - n)
theorem kid_eq (b n : Nat) : kid b n = b + 2 ^ (63 - n) := by unfold kid; rfl
end Go.Proofs.Ytijkmbebfodhdaa
