/-
  How many bits a number has: the library's Len64; how many bytes.
-/
import Derived.Test.YtijkmbebfodhdaaRefA
import Derived.Test.YtijkmbebfodhdaaShelf5
import Derived.Lib.ItoaNum
import Derived.Test.YtijkmbebfodhdaaMem12
namespace Go.Proofs.Ytijkmbebfodhdaa
open Go.RowKit
set_option linter.unusedSimpArgs false
set_option linter.unusedVariables false
set_option maxHeartbeats 1000000
set_option maxRecDepth 200000
attribute [local irreducible] wpQuiet wpList wpAnyH Calls

/-- How many bits. -/
def bl (v : Nat) : Nat := if v = 0 then 0 else v.log2 + 1
/-- How many bytes. -/
def nB (v : Nat) : Nat := if v = 0 then 0 else v.log2 / 8 + 1
theorem nB_bl (v : Nat) : (bl v + 7) / 8 = nB v := by unfold bl nB; split <;> omega
theorem bl_shift (v s : Nat) (h : 2 ^ s ≤ v) : bl v = s + bl (v / 2 ^ s) := by
  have hp : 0 < 2 ^ s := Nat.pow_pos (by omega)
  have hy : v / 2 ^ s ≠ 0 := by have := Nat.div_le_div_right (c := 2 ^ s) h; rw [Nat.div_self hp] at this; omega
  have hv : v ≠ 0 := by omega
  unfold bl
  rw [if_neg hv, if_neg hy]
  obtain ⟨k, hk⟩ : ∃ k, (v / 2 ^ s).log2 = k := ⟨_, rfl⟩
  have h1 := (Nat.log2_eq_iff hy).1 hk
  rw [hk]
  have : v.log2 = s + k := by
    refine (Nat.log2_eq_iff hv).2 ⟨?_, ?_⟩
    · rw [Nat.pow_add]
      exact Nat.le_trans (Nat.mul_le_mul_left _ h1.1) (Nat.mul_div_le _ _)
    · rw [Nat.add_assoc, Nat.pow_add]
      have := Nat.lt_mul_of_div_lt h1.2 hp
      rwa [Nat.mul_comm] at this
  omega
theorem nB_lt (v : Nat) : v < 256 ^ nB v := by
  unfold nB
  split
  · next h => rw [h]; decide
  · next h =>
    rw [show (256 : Nat) = 2 ^ 8 from rfl, ← Nat.pow_mul]
    exact Nat.lt_of_lt_of_le (Nat.lt_log2_self) (Nat.pow_le_pow_right (by omega) (by omega))
theorem nB_le (v : Nat) (h : 0 < v) : 256 ^ (nB v - 1) ≤ v := by
  unfold nB
  rw [if_neg (by omega), Nat.add_sub_cancel, show (256 : Nat) = 2 ^ 8 from rfl, ← Nat.pow_mul]
  exact Nat.le_trans (Nat.pow_le_pow_right (by omega) (by omega)) (Nat.log2_self_le (by omega))
theorem nB_pos (v : Nat) (h : 0 < v) : 0 < nB v := by unfold nB; rw [if_neg (by omega)]; omega
theorem nB_8 (v : Nat) (h : v < 2 ^ 64) : nB v ≤ 8 := by
  unfold nB
  split
  · omega
  · next h0 => have := (Nat.log2_lt h0).2 h; omega
theorem nB_unique (v k : Nat) (hk : 0 < k) (h1 : 256 ^ (k - 1) ≤ v) (h2 : v < 256 ^ k) : nB v = k := by
  have h0 : 0 < v := Nat.lt_of_lt_of_le (Nat.pow_pos (by omega)) h1
  have h3 := nB_lt v
  have h4 := nB_le v h0
  have h5 := nB_pos v h0
  have a1 : k - 1 < nB v := (Nat.pow_lt_pow_iff_right (show 1 < 256 by omega)).1 (Nat.lt_of_le_of_lt h1 h3)
  have a2 : nB v - 1 < k := (Nat.pow_lt_pow_iff_right (show 1 < 256 by omega)).1 (Nat.lt_of_le_of_lt h4 h2)
  omega
theorem bitLen_bl (v : Nat) (hv : v < 2 ^ 64) : Lib.bitLen v = bl v := by
  unfold Lib.bitLen bl
  by_cases h : v = 0
  · rw [h, Lib.bitLenAux_zero, if_pos rfl]
  · obtain ⟨h1, h2, h3⟩ := Lib.bitLenAux_bounds 64 v hv h
    rw [if_neg h, (Nat.log2_eq_iff h).2 ⟨h2, by rw [Nat.sub_add_cancel h1]; exact h3⟩]
    omega
theorem len64_c (v : Nat) (hv : v < 2 ^ 64) (w : World) : Calls Try.prog 83 #[.int .u64 (v : Int)] w fun e w' => e = .returned (.int .i64 ((bl v : Nat) : Int)) ∧ Ext w w' := by
  refine (Try.bits_Len64 (v : Int) w (by omega) (by omega)).mono ?_
  rintro e w' ⟨rfl, rfl⟩
  exact ⟨by rw [Int.toNat_natCast, bitLen_bl v hv], Ext.refl _⟩
end Go.Proofs.Ytijkmbebfodhdaa
