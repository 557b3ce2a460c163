/-
  Sums: turning to the left, the four mixes, the beginning.
-/
import Derived.Test.YtdlfgoiakkkilaaChecked
import Derived.Test.YtdlfgoiakkkilaaMem7
import Derived.Test.YtdlfgoiakkkilaaLabA
namespace Go.Proofs.Ytdlfgoiakkkilaa
open Go.RowKit
set_option linter.unusedSimpArgs false
set_option linter.unusedVariables false
set_option maxHeartbeats 1000000
set_option maxRecDepth 20000
attribute [local irreducible] wpQuiet wpList wpAnyH Calls

theorem undU32 : Try.prog.underlying 50 = some (.int .u32) := by kernel_rfl
theorem sizeU32 : (Try.prog.info? 50).map (·.size) = some 1 := by kernel_rfl
theorem undState : Try.prog.underlying 52 = some (.array 5 50) := by kernel_rfl
theorem sizeState : (Try.prog.info? 52).map (·.size) = some 5 := by kernel_rfl
theorem zeroState : (Try.prog.info? 52).bind (·.zero) = some (.agg #[.int .u32 0, .int .u32 0, .int .u32 0, .int .u32 0, .int .u32 0]) := by kernel_rfl
theorem built_state (a b c d e : Int) : Try.prog.built 52 [(0, .int .u32 a), (1, .int .u32 b), (2, .int .u32 c), (3, .int .u32 d), (4, .int .u32 e)] = some #[.int .u32 a, .int .u32 b, .int .u32 c, .int .u32 d, .int .u32 e] := by kernel_rfl

/-- A number of 32 bits, turned to the left. -/
def rot (n x : Nat) : Nat := (x * 2 ^ n % 2 ^ 32) ||| (x / 2 ^ (32 - n))
theorem rot_lt (n x : Nat) (hx : x < 2 ^ 32) : rot n x < 2 ^ 32 := Nat.or_lt_two_pow (Nat.mod_lt _ (by decide)) (Nat.lt_of_le_of_lt (Nat.div_le_self _ _) hx)
theorem and31 : ∀ k : Fin 32, bits .and .u64 ((k.1 : Nat) : Int) 31 = ((k.1 : Nat) : Int) := by decide +kernel
theorem wrap_mod32 (x : Nat) : IntKind.u32.wrap ((x : Nat) : Int) = ((x % 2 ^ 32 : Nat) : Int) := by
  simp [IntKind.wrap, IntKind.bits, IntKind.signed]
theorem rotate_c (x k : Nat) (hx : x < 2 ^ 32) (hk : k < 32) (w : World) :
    Calls Try.prog 67 #[.int .u32 (x : Int), .int .i64 (k : Int)] w fun e w' => e = .returned (.int .u32 ((rot k x : Nat) : Int)) ∧ Ext w w' := by
  have f1 : bits .and .u64 (k : Int) 31 = (k : Int) := and31 ⟨k, hk⟩
  have f2 : IntKind.u64.wrap (k : Int) = (k : Int) := wrap_u64 (by omega) (by omega)
  obtain ⟨m, hm'⟩ : ∃ m, 32 - k = m := ⟨_, rfl⟩
  have f3 : IntKind.u64.wrap (32 - (k : Int)) = (m : Int) := by rw [wrap_u64 (by omega) (by omega)]; omega
  obtain ⟨p, hp⟩ : ∃ p, x * 2 ^ k % 2 ^ 32 = p := ⟨_, rfl⟩
  obtain ⟨q, hq⟩ : ∃ q, x / 2 ^ m = q := ⟨_, rfl⟩
  have hp32 : p < 2 ^ 32 := by rw [← hp]; exact Nat.mod_lt _ (by decide)
  have hq32 : q < 2 ^ 32 := by rw [← hq]; exact Nat.lt_of_le_of_lt (Nat.div_le_self _ _) hx
  have f4 : IntKind.u32.wrap ((x : Int) * 2 ^ k) = (p : Int) := by
    rw [show (x : Int) * 2 ^ k = ((x * 2 ^ k : Nat) : Int) from by push_cast; rfl, wrap_mod32, hp]
  have f5 : (x : Int) / 2 ^ m = (q : Int) := by rw [← hq]; push_cast; rfl
  have f6 : bits .or .u32 (p : Int) (q : Int) = ((rot k x : Nat) : Int) := by rw [u32_or_nat _ _ hp32 hq32, rot, hp, hm', hq]
  have k0 : (0 : Int) ≤ (k : Int) := by omega
  have k1 : (k : Int) ≤ 32 := by omega
  have m0 : (0 : Int) ≤ (m : Int) := by omega
  have m1 : (m : Int) ≤ 32 := by omega
  generalize rot k x = r at *
  clear hp hq hm'
  go_enter Try.func67, Try.ntmps67
  have hm := Mem.refl w []
  go_wp2_with ((first | refine wpList_skip (by rfl) ?_ | (refine wlL (hm := hm) (hu := by first | exact undState) (hi := by (try simp only [rowOf_size]); first | exact sizeState) (h := ?_); (try simp only [Act.put, k1, k2, k3]); (try simp only [← idV_eq])) | refine wlLC (hm := hm) (hu := by first | exact undU32) (h := ?_) | (refine wlS (hm := hm) (hv := (by first | rfl | exact idV_eq _ | exact labV_eq _ _ | exact rectV_eq _ _ _ _)) (hi := by (try simp only [rowOf_size]); first | exact sizeState) (hs := by first | (simp only [rowOf_size]; done) | rfl) (h := ?_); clear hm; intro w1 hm; (try simp only [rowOf_set, k1, k2, k3, Value.cells, Act.eval, k7, k8, k9, kA, Option.getD_some] at hm)) | (refine wlSC (hm := hm) (hi := by first | exact sizeU32) (ho := by first | decide | (simp only [rowOf_size]; omega) | (simp; done)) (h := ?_); clear hm; intro w1 hm; (try simp only [rowOf_set, k1, k2, k3, Value.cells, Act.eval, k7, k8, k9, kA, Option.getD_some] at hm)) | (refine wlA (hz := by first | exact zeroState) (hm := hm) (h := ?_); clear hm; intro b1 w1 hm; (try simp only [rowOf_set, k1, k2, k3, Value.cells, Act.eval, k7, k8, k9, kA, Option.getD_some] at hm)) | (refine wl_box (by rfl) rfl (by first | exact idV_cells _ | exact labV_cells _ _ | exact rectV_cells _ _ _ _ | rfl) hm ?_; clear hm; intro b1 w1 hm) | (refine wl_build (by rfl) (built_state _ _ _ _ _) rfl ?_; (try simp only [Act.put, k1, k2, k3]); (try simp only [← idV_eq]))); (try simp only [k4, k5, k6, Act.put, k1, k2, k3]))
  go_ret
  exact ⟨rfl, hm.ext⟩

/-- One more. -/
theorem rot_one (x k : Nat) (hx : x < 2 ^ 32) (hk : k < 31) : rot 1 (rot k x) = rot (k + 1) x := by
  have far : ∀ i, ¬ i < 32 → x.testBit i = false := fun i h => Nat.testBit_lt_two_pow (Nat.lt_of_lt_of_le hx (Nat.pow_le_pow_right (by omega) (by omega)))
  have hb : ∀ n y i, n ≤ 32 → (rot n y).testBit i = (decide (i < 32) && (decide (n ≤ i) && y.testBit (i - n)) || y.testBit (i + (32 - n))) := fun n y i hn => by
    rw [rot, Nat.testBit_or, Nat.testBit_mod_two_pow, Nat.testBit_mul_two_pow, Nat.testBit_div_two_pow]
  apply Nat.eq_of_testBit_eq
  intro i
  rw [hb 1 _ i (by omega), hb k x _ (by omega), hb k x _ (by omega), hb (k + 1) x i (by omega)]
  by_cases h32 : i < 32
  · rw [decide_eq_true h32, Bool.true_and, Bool.true_and]
    by_cases h0 : i = 0
    · subst h0
      rw [decide_eq_false (show ¬ 1 ≤ 0 by omega), decide_eq_false (show ¬ k + 1 ≤ 0 by omega), Bool.false_and, Bool.false_and, Bool.false_or, Bool.false_or, show 0 + (32 - 1) = 31 from rfl, decide_eq_true (show 31 < 32 by omega), decide_eq_true (show k ≤ 31 by omega), Bool.true_and, Bool.true_and, show 31 - k = 0 + (32 - (k + 1)) from by omega, far (31 + (32 - k)) (by omega), Bool.or_false]
    · rw [decide_eq_true (show 1 ≤ i by omega), Bool.true_and, decide_eq_true (show i - 1 < 32 by omega), Bool.true_and, decide_eq_false (show ¬ i + (32 - 1) < 32 by omega), Bool.false_and, Bool.false_or, far (i + (32 - 1) + (32 - k)) (by omega), Bool.or_false, show i - 1 + (32 - k) = i + (32 - (k + 1)) from by omega, show i - 1 - k = i - (k + 1) from by omega]
      have : decide (k ≤ i - 1) = decide (k + 1 ≤ i) := by rw [Bool.eq_iff_iff, decide_eq_true_iff, decide_eq_true_iff]; omega
      rw [this]
  · rw [decide_eq_false h32, Bool.false_and, Bool.false_and, Bool.false_or, Bool.false_or, decide_eq_false (show ¬ i + (32 - 1) < 32 by omega), Bool.false_and, Bool.false_or, far (i + (32 - 1) + (32 - k)) (by omega), far (i + (32 - (k + 1))) (by omega)]
theorem rot_zero (x : Nat) (hx : x < 2 ^ 32) : rot 0 x = x := by
  unfold rot
  rw [Nat.pow_zero, Nat.mul_one, Nat.mod_eq_of_lt hx, Nat.div_eq_of_lt (by simpa using hx), Nat.or_zero]
theorem left_c (x n : Nat) (hx : x < 2 ^ 32) (hn : n < 32) (w : World) :
    Calls Try.prog 68 #[.int .u32 (x : Int), .int .i64 (n : Int)] w fun e w' => e = .returned (.int .u32 ((rot n x : Nat) : Int)) ∧ Ext w w' := by
  go_enter Try.func68, Try.ntmps68
  have hm := Mem.refl w []
  go_wp2_with ((first | refine wpList_skip (by rfl) ?_ | (refine wlL (hm := hm) (hu := by first | exact undState) (hi := by (try simp only [rowOf_size]); first | exact sizeState) (h := ?_); (try simp only [Act.put, k1, k2, k3]); (try simp only [← idV_eq])) | refine wlLC (hm := hm) (hu := by first | exact undU32) (h := ?_) | (refine wlS (hm := hm) (hv := (by first | rfl | exact idV_eq _ | exact labV_eq _ _ | exact rectV_eq _ _ _ _)) (hi := by (try simp only [rowOf_size]); first | exact sizeState) (hs := by first | (simp only [rowOf_size]; done) | rfl) (h := ?_); clear hm; intro w1 hm; (try simp only [rowOf_set, k1, k2, k3, Value.cells, Act.eval, k7, k8, k9, kA, Option.getD_some] at hm)) | (refine wlSC (hm := hm) (hi := by first | exact sizeU32) (ho := by first | decide | (simp only [rowOf_size]; omega) | (simp; done)) (h := ?_); clear hm; intro w1 hm; (try simp only [rowOf_set, k1, k2, k3, Value.cells, Act.eval, k7, k8, k9, kA, Option.getD_some] at hm)) | (refine wlA (hz := by first | exact zeroState) (hm := hm) (h := ?_); clear hm; intro b1 w1 hm; (try simp only [rowOf_set, k1, k2, k3, Value.cells, Act.eval, k7, k8, k9, kA, Option.getD_some] at hm)) | (refine wl_box (by rfl) rfl (by first | exact idV_cells _ | exact labV_cells _ _ | exact rectV_cells _ _ _ _ | rfl) hm ?_; clear hm; intro b1 w1 hm) | (refine wl_build (by rfl) (built_state _ _ _ _ _) rfl ?_; (try simp only [Act.put, k1, k2, k3]); (try simp only [← idV_eq]))); (try simp only [k4, k5, k6, Act.put, k1, k2, k3]))
  go_loopw [0, 5] (fun vx vi wr => ∃ k : Nat, k ≤ n ∧ vi = .int .i64 (k : Int) ∧ vx = .int .u32 ((rot k x : Nat) : Int) ∧ Mem w [] [] wr)
    (fun _ vi _ => (n - intOf vi).toNat)
  case atStart => exact ⟨0, by omega, rfl, by rw [rot_zero x hx], hm⟩
  case round =>
    clear hm
    obtain ⟨k, hk, rfl, rfl, hm⟩ := hrel
    by_cases h0 : k < n
    · have hy := rot_lt k x hx
      have HN := hid (rot_one x k hx (by omega))
      obtain ⟨y, hye⟩ : ∃ y, rot k x = y := ⟨_, rfl⟩
      rw [hye] at HN hy
      rw [hye]
      clear hye
      have w1 : IntKind.i64.wrap ((k : Int) + 1) = (k : Int) + 1 := wrap_i64 (by omega) (by omega)
      obtain ⟨p, hp⟩ : ∃ p, y * 2 ^ 1 % 2 ^ 32 = p := ⟨_, rfl⟩
      obtain ⟨q, hq⟩ : ∃ q, y / 2 ^ (32 - 1) = q := ⟨_, rfl⟩
      have hp32 : p < 2 ^ 32 := by rw [← hp]; exact Nat.mod_lt _ (by decide)
      have hq32 : q < 2 ^ 32 := by rw [← hq]; exact Nat.lt_of_le_of_lt (Nat.div_le_self _ _) hy
      have f4 : IntKind.u32.wrap ((y : Int) * 2) = (p : Int) := by
        rw [show (y : Int) * 2 = ((y * 2 ^ 1 : Nat) : Int) from by push_cast; rfl, wrap_mod32, hp]
      have e31 : (2 : Nat) ^ (32 - 1) = 2147483648 := by decide
      have f5 : (y : Int) / 2147483648 = (q : Int) := by rw [e31] at hq; omega
      clear e31
      have f6 : bits .or .u32 (p : Int) (q : Int) = ((rot 1 y : Nat) : Int) := by rw [u32_or_nat _ _ hp32 hq32, rot, hp, hq]
      obtain ⟨r, hr⟩ : ∃ r, rot 1 y = r := ⟨_, rfl⟩
      rw [hr] at HN f6
      clear hp hq hr
      go_wp2_with ((first | refine wpList_skip (by rfl) ?_ | (refine wlL (hm := hm) (hu := by first | exact undState) (hi := by (try simp only [rowOf_size]); first | exact sizeState) (h := ?_); (try simp only [Act.put, k1, k2, k3]); (try simp only [← idV_eq])) | refine wlLC (hm := hm) (hu := by first | exact undU32) (h := ?_) | (refine wlS (hm := hm) (hv := (by first | rfl | exact idV_eq _ | exact labV_eq _ _ | exact rectV_eq _ _ _ _)) (hi := by (try simp only [rowOf_size]); first | exact sizeState) (hs := by first | (simp only [rowOf_size]; done) | rfl) (h := ?_); clear hm; intro w1 hm; (try simp only [rowOf_set, k1, k2, k3, Value.cells, Act.eval, k7, k8, k9, kA, Option.getD_some] at hm)) | (refine wlSC (hm := hm) (hi := by first | exact sizeU32) (ho := by first | decide | (simp only [rowOf_size]; omega) | (simp; done)) (h := ?_); clear hm; intro w1 hm; (try simp only [rowOf_set, k1, k2, k3, Value.cells, Act.eval, k7, k8, k9, kA, Option.getD_some] at hm)) | (refine wlA (hz := by first | exact zeroState) (hm := hm) (h := ?_); clear hm; intro b1 w1 hm; (try simp only [rowOf_set, k1, k2, k3, Value.cells, Act.eval, k7, k8, k9, kA, Option.getD_some] at hm)) | (refine wl_box (by rfl) rfl (by first | exact idV_cells _ | exact labV_cells _ _ | exact rectV_cells _ _ _ _ | rfl) hm ?_; clear hm; intro b1 w1 hm) | (refine wl_build (by rfl) (built_state _ _ _ _ _) rfl ?_; (try simp only [Act.put, k1, k2, k3]); (try simp only [← idV_eq]))); (try simp only [k4, k5, k6, Act.put, k1, k2, k3]))
      go_roundw
      case rel => exact ⟨k + 1, by omega, by go_num, by rw [← HN.out], hm⟩
      case measure => (simp [intOf]; try omega)
    · obtain rfl : k = n := by omega
      go_wp2_with ((first | refine wpList_skip (by rfl) ?_ | (refine wlL (hm := hm) (hu := by first | exact undState) (hi := by (try simp only [rowOf_size]); first | exact sizeState) (h := ?_); (try simp only [Act.put, k1, k2, k3]); (try simp only [← idV_eq])) | refine wlLC (hm := hm) (hu := by first | exact undU32) (h := ?_) | (refine wlS (hm := hm) (hv := (by first | rfl | exact idV_eq _ | exact labV_eq _ _ | exact rectV_eq _ _ _ _)) (hi := by (try simp only [rowOf_size]); first | exact sizeState) (hs := by first | (simp only [rowOf_size]; done) | rfl) (h := ?_); clear hm; intro w1 hm; (try simp only [rowOf_set, k1, k2, k3, Value.cells, Act.eval, k7, k8, k9, kA, Option.getD_some] at hm)) | (refine wlSC (hm := hm) (hi := by first | exact sizeU32) (ho := by first | decide | (simp only [rowOf_size]; omega) | (simp; done)) (h := ?_); clear hm; intro w1 hm; (try simp only [rowOf_set, k1, k2, k3, Value.cells, Act.eval, k7, k8, k9, kA, Option.getD_some] at hm)) | (refine wlA (hz := by first | exact zeroState) (hm := hm) (h := ?_); clear hm; intro b1 w1 hm; (try simp only [rowOf_set, k1, k2, k3, Value.cells, Act.eval, k7, k8, k9, kA, Option.getD_some] at hm)) | (refine wl_box (by rfl) rfl (by first | exact idV_cells _ | exact labV_cells _ _ | exact rectV_cells _ _ _ _ | rfl) hm ?_; clear hm; intro b1 w1 hm) | (refine wl_build (by rfl) (built_state _ _ _ _ _) rfl ?_; (try simp only [Act.put, k1, k2, k3]); (try simp only [← idV_eq]))); (try simp only [k4, k5, k6, Act.put, k1, k2, k3]))
      go_ret
      exact ⟨rfl, hm.ext⟩

/-! ### The mixes -/
def notM (b : Nat) : Nat := 4294967295 - b
def chM (b c d : Nat) : Nat := (b &&& c) ||| (notM b &&& d)
def unM (b c d : Nat) : Nat := b ^^^ c ^^^ d
def moM (b c d : Nat) : Nat := (b &&& c) ||| (b &&& d) ||| (c &&& d)
theorem and_lt32 {a b : Nat} (h : a < 2 ^ 32) : a &&& b < 2 ^ 32 := Nat.lt_of_le_of_lt Nat.and_le_left h
theorem chM_lt (b c d : Nat) (hb : b < 2 ^ 32) : chM b c d < 2 ^ 32 := Nat.or_lt_two_pow (and_lt32 hb) (and_lt32 (by unfold notM; omega))
theorem unM_lt (b c d : Nat) (hb : b < 2 ^ 32) (hc : c < 2 ^ 32) (hd : d < 2 ^ 32) : unM b c d < 2 ^ 32 := Nat.xor_lt_two_pow (Nat.xor_lt_two_pow hb hc) hd
theorem moM_lt (b c d : Nat) (hb : b < 2 ^ 32) (hc : c < 2 ^ 32) : moM b c d < 2 ^ 32 := Nat.or_lt_two_pow (Nat.or_lt_two_pow (and_lt32 hb) (and_lt32 hb)) (and_lt32 hc)
theorem not_xor (b : Nat) (hb : b < 2 ^ 32) : 4294967295 ^^^ b = notM b := by
  have h1 : (4294967295 : Nat) = 2 ^ 32 - 1 := by decide
  unfold notM
  rw [h1, show 2 ^ 32 - 1 - b = 2 ^ 32 - (b + 1) from by omega]
  apply Nat.eq_of_testBit_eq
  intro i
  rw [Nat.testBit_xor, Nat.testBit_two_pow_sub_one, Nat.testBit_two_pow_sub_succ hb]
  by_cases h : i < 32
  · rw [decide_eq_true h]; simp
  · rw [decide_eq_false h, Nat.testBit_lt_two_pow (Nat.lt_of_lt_of_le hb (Nat.pow_le_pow_right (by omega) (show 32 ≤ i by omega)))]; simp
theorem notM_lt (b : Nat) : notM b < 2 ^ 32 := by unfold notM; omega
/-- The facts that a mix wants. -/
theorem ch_facts (b c d : Nat) (hb : b < 2 ^ 32) (hc : c < 2 ^ 32) (hd : d < 2 ^ 32) : bits .and .u32 (b : Int) (c : Int) = ((b &&& c : Nat) : Int) ∧ bits .xor .u32 4294967295 (b : Int) = ((notM b : Nat) : Int) ∧ bits .and .u32 ((notM b : Nat) : Int) (d : Int) = ((notM b &&& d : Nat) : Int) ∧
    bits .or .u32 ((b &&& c : Nat) : Int) ((notM b &&& d : Nat) : Int) = ((chM b c d : Nat) : Int) := by
  refine ⟨u32_and_nat _ _ hb hc, ?_, u32_and_nat _ _ (notM_lt b) hd, ?_⟩
  · have := u32_xor_nat 4294967295 b (by decide) hb
    rw [not_xor b hb] at this
    exact this
  · rw [u32_or_nat _ _ (and_lt32 hb) (and_lt32 (notM_lt b)), chM]
theorem choose_c (b c d : Nat) (hb : b < 2 ^ 32) (hc : c < 2 ^ 32) (hd : d < 2 ^ 32) (w : World) :
    Calls Try.prog 79 #[.int .u32 (b : Int), .int .u32 (c : Int), .int .u32 (d : Int)] w fun e w' => e = .returned (.int .u32 ((chM b c d : Nat) : Int)) ∧ Ext w w' := by
  obtain ⟨f1, f2, f3, f4⟩ := ch_facts b c d hb hc hd
  have f2' : bits .xor .u32 IntKind.u32.max (b : Int) = ((notM b : Nat) : Int) := f2
  generalize chM b c d = r at *
  generalize b &&& c = x at *
  generalize notM b &&& d = y at *
  generalize notM b = z at *
  go_enter Try.func79, Try.ntmps79
  have hm := Mem.refl w []
  go_wp2_with ((first | refine wpList_skip (by rfl) ?_ | (refine wlL (hm := hm) (hu := by first | exact undState) (hi := by (try simp only [rowOf_size]); first | exact sizeState) (h := ?_); (try simp only [Act.put, k1, k2, k3]); (try simp only [← idV_eq])) | refine wlLC (hm := hm) (hu := by first | exact undU32) (h := ?_) | (refine wlS (hm := hm) (hv := (by first | rfl | exact idV_eq _ | exact labV_eq _ _ | exact rectV_eq _ _ _ _)) (hi := by (try simp only [rowOf_size]); first | exact sizeState) (hs := by first | (simp only [rowOf_size]; done) | rfl) (h := ?_); clear hm; intro w1 hm; (try simp only [rowOf_set, k1, k2, k3, Value.cells, Act.eval, k7, k8, k9, kA, Option.getD_some] at hm)) | (refine wlSC (hm := hm) (hi := by first | exact sizeU32) (ho := by first | decide | (simp only [rowOf_size]; omega) | (simp; done)) (h := ?_); clear hm; intro w1 hm; (try simp only [rowOf_set, k1, k2, k3, Value.cells, Act.eval, k7, k8, k9, kA, Option.getD_some] at hm)) | (refine wlA (hz := by first | exact zeroState) (hm := hm) (h := ?_); clear hm; intro b1 w1 hm; (try simp only [rowOf_set, k1, k2, k3, Value.cells, Act.eval, k7, k8, k9, kA, Option.getD_some] at hm)) | (refine wl_box (by rfl) rfl (by first | exact idV_cells _ | exact labV_cells _ _ | exact rectV_cells _ _ _ _ | rfl) hm ?_; clear hm; intro b1 w1 hm) | (refine wl_build (by rfl) (built_state _ _ _ _ _) rfl ?_; (try simp only [Act.put, k1, k2, k3]); (try simp only [← idV_eq]))); (try simp only [k4, k5, k6, Act.put, k1, k2, k3]))
  go_ret
  exact ⟨rfl, hm.ext⟩
theorem unlike_c (b c d : Nat) (hb : b < 2 ^ 32) (hc : c < 2 ^ 32) (hd : d < 2 ^ 32) (w : World) :
    Calls Try.prog 80 #[.int .u32 (b : Int), .int .u32 (c : Int), .int .u32 (d : Int)] w fun e w' => e = .returned (.int .u32 ((unM b c d : Nat) : Int)) ∧ Ext w w' := by
  have f1 : bits .xor .u32 (b : Int) (c : Int) = ((b ^^^ c : Nat) : Int) := u32_xor_nat _ _ hb hc
  have f2 : bits .xor .u32 ((b ^^^ c : Nat) : Int) (d : Int) = ((unM b c d : Nat) : Int) := u32_xor_nat _ _ (Nat.xor_lt_two_pow hb hc) hd
  generalize unM b c d = r at *
  generalize b ^^^ c = x at *
  go_enter Try.func80, Try.ntmps80
  have hm := Mem.refl w []
  go_wp2_with ((first | refine wpList_skip (by rfl) ?_ | (refine wlL (hm := hm) (hu := by first | exact undState) (hi := by (try simp only [rowOf_size]); first | exact sizeState) (h := ?_); (try simp only [Act.put, k1, k2, k3]); (try simp only [← idV_eq])) | refine wlLC (hm := hm) (hu := by first | exact undU32) (h := ?_) | (refine wlS (hm := hm) (hv := (by first | rfl | exact idV_eq _ | exact labV_eq _ _ | exact rectV_eq _ _ _ _)) (hi := by (try simp only [rowOf_size]); first | exact sizeState) (hs := by first | (simp only [rowOf_size]; done) | rfl) (h := ?_); clear hm; intro w1 hm; (try simp only [rowOf_set, k1, k2, k3, Value.cells, Act.eval, k7, k8, k9, kA, Option.getD_some] at hm)) | (refine wlSC (hm := hm) (hi := by first | exact sizeU32) (ho := by first | decide | (simp only [rowOf_size]; omega) | (simp; done)) (h := ?_); clear hm; intro w1 hm; (try simp only [rowOf_set, k1, k2, k3, Value.cells, Act.eval, k7, k8, k9, kA, Option.getD_some] at hm)) | (refine wlA (hz := by first | exact zeroState) (hm := hm) (h := ?_); clear hm; intro b1 w1 hm; (try simp only [rowOf_set, k1, k2, k3, Value.cells, Act.eval, k7, k8, k9, kA, Option.getD_some] at hm)) | (refine wl_box (by rfl) rfl (by first | exact idV_cells _ | exact labV_cells _ _ | exact rectV_cells _ _ _ _ | rfl) hm ?_; clear hm; intro b1 w1 hm) | (refine wl_build (by rfl) (built_state _ _ _ _ _) rfl ?_; (try simp only [Act.put, k1, k2, k3]); (try simp only [← idV_eq]))); (try simp only [k4, k5, k6, Act.put, k1, k2, k3]))
  go_ret
  exact ⟨rfl, hm.ext⟩
theorem mo_facts (b c d : Nat) (hb : b < 2 ^ 32) (hc : c < 2 ^ 32) (hd : d < 2 ^ 32) : bits .and .u32 (b : Int) (c : Int) = ((b &&& c : Nat) : Int) ∧ bits .and .u32 (b : Int) (d : Int) = ((b &&& d : Nat) : Int) ∧ bits .and .u32 (c : Int) (d : Int) = ((c &&& d : Nat) : Int) ∧
    bits .or .u32 ((b &&& c : Nat) : Int) ((b &&& d : Nat) : Int) = ((b &&& c ||| b &&& d : Nat) : Int) ∧ bits .or .u32 ((b &&& c ||| b &&& d : Nat) : Int) ((c &&& d : Nat) : Int) = ((moM b c d : Nat) : Int) :=
  ⟨u32_and_nat _ _ hb hc, u32_and_nat _ _ hb hd, u32_and_nat _ _ hc hd, u32_or_nat _ _ (and_lt32 hb) (and_lt32 hb), u32_or_nat _ _ (Nat.or_lt_two_pow (and_lt32 hb) (and_lt32 hb)) (and_lt32 hc)⟩
theorem most_c (b c d : Nat) (hb : b < 2 ^ 32) (hc : c < 2 ^ 32) (hd : d < 2 ^ 32) (w : World) :
    Calls Try.prog 81 #[.int .u32 (b : Int), .int .u32 (c : Int), .int .u32 (d : Int)] w fun e w' => e = .returned (.int .u32 ((moM b c d : Nat) : Int)) ∧ Ext w w' := by
  obtain ⟨f1, f2, f3, f4, f5⟩ := mo_facts b c d hb hc hd
  generalize moM b c d = r at *
  generalize b &&& c ||| b &&& d = t at *
  generalize b &&& c = x at *
  generalize b &&& d = y at *
  generalize c &&& d = z at *
  go_enter Try.func81, Try.ntmps81
  have hm := Mem.refl w []
  go_wp2_with ((first | refine wpList_skip (by rfl) ?_ | (refine wlL (hm := hm) (hu := by first | exact undState) (hi := by (try simp only [rowOf_size]); first | exact sizeState) (h := ?_); (try simp only [Act.put, k1, k2, k3]); (try simp only [← idV_eq])) | refine wlLC (hm := hm) (hu := by first | exact undU32) (h := ?_) | (refine wlS (hm := hm) (hv := (by first | rfl | exact idV_eq _ | exact labV_eq _ _ | exact rectV_eq _ _ _ _)) (hi := by (try simp only [rowOf_size]); first | exact sizeState) (hs := by first | (simp only [rowOf_size]; done) | rfl) (h := ?_); clear hm; intro w1 hm; (try simp only [rowOf_set, k1, k2, k3, Value.cells, Act.eval, k7, k8, k9, kA, Option.getD_some] at hm)) | (refine wlSC (hm := hm) (hi := by first | exact sizeU32) (ho := by first | decide | (simp only [rowOf_size]; omega) | (simp; done)) (h := ?_); clear hm; intro w1 hm; (try simp only [rowOf_set, k1, k2, k3, Value.cells, Act.eval, k7, k8, k9, kA, Option.getD_some] at hm)) | (refine wlA (hz := by first | exact zeroState) (hm := hm) (h := ?_); clear hm; intro b1 w1 hm; (try simp only [rowOf_set, k1, k2, k3, Value.cells, Act.eval, k7, k8, k9, kA, Option.getD_some] at hm)) | (refine wl_box (by rfl) rfl (by first | exact idV_cells _ | exact labV_cells _ _ | exact rectV_cells _ _ _ _ | rfl) hm ?_; clear hm; intro b1 w1 hm) | (refine wl_build (by rfl) (built_state _ _ _ _ _) rfl ?_; (try simp only [Act.put, k1, k2, k3]); (try simp only [← idV_eq]))); (try simp only [k4, k5, k6, Act.put, k1, k2, k3]))
  go_ret
  exact ⟨by first | rfl | (rw [f1, f2, f3, f4, f5]; rfl), hm.ext⟩

/-- The mix of a round, and what it adds. -/
def mixM (t b c d : Nat) : Nat := if t < 20 then chM b c d else if t < 40 then unM b c d else if t < 60 then moM b c d else unM b c d
def addM (t : Nat) : Nat := if t < 20 then 1518500249 else if t < 40 then 1859775393 else if t < 60 then 2400959708 else 3395469782
theorem mixM_lt (t b c d : Nat) (hb : b < 2 ^ 32) (hc : c < 2 ^ 32) (hd : d < 2 ^ 32) : mixM t b c d < 2 ^ 32 := by
  unfold mixM
  split
  · exact chM_lt b c d hb
  · split
    · exact unM_lt b c d hb hc hd
    · split
      · exact moM_lt b c d hb hc
      · exact unM_lt b c d hb hc hd
theorem addM_lt (t : Nat) : addM t < 2 ^ 32 := by unfold addM; split; decide; split; decide; split; decide; decide
theorem mixed_c (t b c d : Nat) (ht : t < 80) (hb : b < 2 ^ 32) (hc : c < 2 ^ 32) (hd : d < 2 ^ 32) (w : World) :
    Calls Try.prog 70 #[.int .i64 (t : Int), .int .u32 (b : Int), .int .u32 (c : Int), .int .u32 (d : Int)] w fun e w' => e = .returned (.tuple #[.int .u32 ((mixM t b c d : Nat) : Int), .int .u32 ((addM t : Nat) : Int)]) ∧ Ext w w' := by
  unfold mixM addM
  by_cases h1 : t < 20
  · rw [if_pos h1, if_pos h1]
    obtain ⟨f1, f2, f3, f4⟩ := ch_facts b c d hb hc hd
    have d1 : decide ((t : Int) < 20) = true := decide_eq_true (by omega)
    generalize chM b c d = r at *
    generalize b &&& c = x at *
    generalize notM b &&& d = y at *
    generalize notM b = z at *
    go_enter Try.func70, Try.ntmps70
    have hm := Mem.refl w []
    go_wp2_with ((first | refine wpList_skip (by rfl) ?_ | (refine wlL (hm := hm) (hu := by first | exact undState) (hi := by (try simp only [rowOf_size]); first | exact sizeState) (h := ?_); (try simp only [Act.put, k1, k2, k3]); (try simp only [← idV_eq])) | refine wlLC (hm := hm) (hu := by first | exact undU32) (h := ?_) | (refine wlS (hm := hm) (hv := (by first | rfl | exact idV_eq _ | exact labV_eq _ _ | exact rectV_eq _ _ _ _)) (hi := by (try simp only [rowOf_size]); first | exact sizeState) (hs := by first | (simp only [rowOf_size]; done) | rfl) (h := ?_); clear hm; intro w1 hm; (try simp only [rowOf_set, k1, k2, k3, Value.cells, Act.eval, k7, k8, k9, kA, Option.getD_some] at hm)) | (refine wlSC (hm := hm) (hi := by first | exact sizeU32) (ho := by first | decide | (simp only [rowOf_size]; omega) | (simp; done)) (h := ?_); clear hm; intro w1 hm; (try simp only [rowOf_set, k1, k2, k3, Value.cells, Act.eval, k7, k8, k9, kA, Option.getD_some] at hm)) | (refine wlA (hz := by first | exact zeroState) (hm := hm) (h := ?_); clear hm; intro b1 w1 hm; (try simp only [rowOf_set, k1, k2, k3, Value.cells, Act.eval, k7, k8, k9, kA, Option.getD_some] at hm)) | (refine wl_box (by rfl) rfl (by first | exact idV_cells _ | exact labV_cells _ _ | exact rectV_cells _ _ _ _ | rfl) hm ?_; clear hm; intro b1 w1 hm) | (refine wl_build (by rfl) (built_state _ _ _ _ _) rfl ?_; (try simp only [Act.put, k1, k2, k3]); (try simp only [← idV_eq]))); (try simp only [k4, k5, k6, Act.put, k1, k2, k3]))
    go_ret2
    exact ⟨by first | rfl | (rw [f1, f2, f3, f4]; rfl), hm.ext⟩
  · rw [if_neg h1, if_neg h1]
    have d1 : decide ((t : Int) < 20) = false := decide_eq_false (by omega)
    have f1 : bits .xor .u32 (b : Int) (c : Int) = ((b ^^^ c : Nat) : Int) := u32_xor_nat _ _ hb hc
    have f2 : bits .xor .u32 ((b ^^^ c : Nat) : Int) (d : Int) = ((unM b c d : Nat) : Int) := u32_xor_nat _ _ (Nat.xor_lt_two_pow hb hc) hd
    obtain ⟨g1, g2, g3, g4, g5⟩ := mo_facts b c d hb hc hd
    generalize moM b c d = r' at *
    generalize b &&& c ||| b &&& d = t' at *
    generalize b &&& c = x' at *
    generalize b &&& d = y' at *
    generalize c &&& d = z' at *
    generalize unM b c d = r at *
    generalize b ^^^ c = x at *
    by_cases h2 : t < 40
    · rw [if_pos h2, if_pos h2]
      have d2 : decide ((t : Int) < 40) = true := decide_eq_true (by omega)
      go_enter Try.func70, Try.ntmps70
      have hm := Mem.refl w []
      go_wp2_with ((first | refine wpList_skip (by rfl) ?_ | (refine wlL (hm := hm) (hu := by first | exact undState) (hi := by (try simp only [rowOf_size]); first | exact sizeState) (h := ?_); (try simp only [Act.put, k1, k2, k3]); (try simp only [← idV_eq])) | refine wlLC (hm := hm) (hu := by first | exact undU32) (h := ?_) | (refine wlS (hm := hm) (hv := (by first | rfl | exact idV_eq _ | exact labV_eq _ _ | exact rectV_eq _ _ _ _)) (hi := by (try simp only [rowOf_size]); first | exact sizeState) (hs := by first | (simp only [rowOf_size]; done) | rfl) (h := ?_); clear hm; intro w1 hm; (try simp only [rowOf_set, k1, k2, k3, Value.cells, Act.eval, k7, k8, k9, kA, Option.getD_some] at hm)) | (refine wlSC (hm := hm) (hi := by first | exact sizeU32) (ho := by first | decide | (simp only [rowOf_size]; omega) | (simp; done)) (h := ?_); clear hm; intro w1 hm; (try simp only [rowOf_set, k1, k2, k3, Value.cells, Act.eval, k7, k8, k9, kA, Option.getD_some] at hm)) | (refine wlA (hz := by first | exact zeroState) (hm := hm) (h := ?_); clear hm; intro b1 w1 hm; (try simp only [rowOf_set, k1, k2, k3, Value.cells, Act.eval, k7, k8, k9, kA, Option.getD_some] at hm)) | (refine wl_box (by rfl) rfl (by first | exact idV_cells _ | exact labV_cells _ _ | exact rectV_cells _ _ _ _ | rfl) hm ?_; clear hm; intro b1 w1 hm) | (refine wl_build (by rfl) (built_state _ _ _ _ _) rfl ?_; (try simp only [Act.put, k1, k2, k3]); (try simp only [← idV_eq]))); (try simp only [k4, k5, k6, Act.put, k1, k2, k3]))
      go_ret2
      exact ⟨by first | rfl | (rw [f1, f2]; rfl), hm.ext⟩
    · rw [if_neg h2, if_neg h2]
      have d2 : decide ((t : Int) < 40) = false := decide_eq_false (by omega)
      by_cases h3 : t < 60
      · rw [if_pos h3, if_pos h3]
        have d3 : decide ((t : Int) < 60) = true := decide_eq_true (by omega)
        go_enter Try.func70, Try.ntmps70
        have hm := Mem.refl w []
        go_wp2_with ((first | refine wpList_skip (by rfl) ?_ | (refine wlL (hm := hm) (hu := by first | exact undState) (hi := by (try simp only [rowOf_size]); first | exact sizeState) (h := ?_); (try simp only [Act.put, k1, k2, k3]); (try simp only [← idV_eq])) | refine wlLC (hm := hm) (hu := by first | exact undU32) (h := ?_) | (refine wlS (hm := hm) (hv := (by first | rfl | exact idV_eq _ | exact labV_eq _ _ | exact rectV_eq _ _ _ _)) (hi := by (try simp only [rowOf_size]); first | exact sizeState) (hs := by first | (simp only [rowOf_size]; done) | rfl) (h := ?_); clear hm; intro w1 hm; (try simp only [rowOf_set, k1, k2, k3, Value.cells, Act.eval, k7, k8, k9, kA, Option.getD_some] at hm)) | (refine wlSC (hm := hm) (hi := by first | exact sizeU32) (ho := by first | decide | (simp only [rowOf_size]; omega) | (simp; done)) (h := ?_); clear hm; intro w1 hm; (try simp only [rowOf_set, k1, k2, k3, Value.cells, Act.eval, k7, k8, k9, kA, Option.getD_some] at hm)) | (refine wlA (hz := by first | exact zeroState) (hm := hm) (h := ?_); clear hm; intro b1 w1 hm; (try simp only [rowOf_set, k1, k2, k3, Value.cells, Act.eval, k7, k8, k9, kA, Option.getD_some] at hm)) | (refine wl_box (by rfl) rfl (by first | exact idV_cells _ | exact labV_cells _ _ | exact rectV_cells _ _ _ _ | rfl) hm ?_; clear hm; intro b1 w1 hm) | (refine wl_build (by rfl) (built_state _ _ _ _ _) rfl ?_; (try simp only [Act.put, k1, k2, k3]); (try simp only [← idV_eq]))); (try simp only [k4, k5, k6, Act.put, k1, k2, k3]))
        go_ret2
        exact ⟨by first | rfl | (rw [g1, g2, g3, g4, g5]; rfl), hm.ext⟩
      · rw [if_neg h3, if_neg h3]
        have d3 : decide ((t : Int) < 60) = false := decide_eq_false (by omega)
        go_enter Try.func70, Try.ntmps70
        have hm := Mem.refl w []
        go_wp2_with ((first | refine wpList_skip (by rfl) ?_ | (refine wlL (hm := hm) (hu := by first | exact undState) (hi := by (try simp only [rowOf_size]); first | exact sizeState) (h := ?_); (try simp only [Act.put, k1, k2, k3]); (try simp only [← idV_eq])) | refine wlLC (hm := hm) (hu := by first | exact undU32) (h := ?_) | (refine wlS (hm := hm) (hv := (by first | rfl | exact idV_eq _ | exact labV_eq _ _ | exact rectV_eq _ _ _ _)) (hi := by (try simp only [rowOf_size]); first | exact sizeState) (hs := by first | (simp only [rowOf_size]; done) | rfl) (h := ?_); clear hm; intro w1 hm; (try simp only [rowOf_set, k1, k2, k3, Value.cells, Act.eval, k7, k8, k9, kA, Option.getD_some] at hm)) | (refine wlSC (hm := hm) (hi := by first | exact sizeU32) (ho := by first | decide | (simp only [rowOf_size]; omega) | (simp; done)) (h := ?_); clear hm; intro w1 hm; (try simp only [rowOf_set, k1, k2, k3, Value.cells, Act.eval, k7, k8, k9, kA, Option.getD_some] at hm)) | (refine wlA (hz := by first | exact zeroState) (hm := hm) (h := ?_); clear hm; intro b1 w1 hm; (try simp only [rowOf_set, k1, k2, k3, Value.cells, Act.eval, k7, k8, k9, kA, Option.getD_some] at hm)) | (refine wl_box (by rfl) rfl (by first | exact idV_cells _ | exact labV_cells _ _ | exact rectV_cells _ _ _ _ | rfl) hm ?_; clear hm; intro b1 w1 hm) | (refine wl_build (by rfl) (built_state _ _ _ _ _) rfl ?_; (try simp only [Act.put, k1, k2, k3]); (try simp only [← idV_eq]))); (try simp only [k4, k5, k6, Act.put, k1, k2, k3]))
        go_ret2
        exact ⟨by first | rfl | (rw [f1, f2]; rfl), hm.ext⟩

/-! ### The beginning -/
@[irreducible] def stV (a b c d e : Nat) : Value := .agg #[.int .u32 (a : Int), .int .u32 (b : Int), .int .u32 (c : Int), .int .u32 (d : Int), .int .u32 (e : Int)]
theorem stV_eq (a b c d e : Nat) : stV a b c d e = .agg #[.int .u32 (a : Int), .int .u32 (b : Int), .int .u32 (c : Int), .int .u32 (d : Int), .int .u32 (e : Int)] := by unfold stV; rfl
theorem stV_cells (a b c d e : Nat) : (stV a b c d e).cells = #[.int .u32 (a : Int), .int .u32 (b : Int), .int .u32 (c : Int), .int .u32 (d : Int), .int .u32 (e : Int)] := by rw [stV_eq]; rfl
theorem start_c (w : World) : Calls Try.prog 49 #[] w fun e w' => e = .returned (stV 1732584193 4023233417 2562383102 271733878 3285377520) ∧ Ext w w' := by
  go_enter Try.func49, Try.ntmps49
  have hm := Mem.refl w []
  go_wp2_with ((first | refine wpList_skip (by rfl) ?_ | (refine wlL (hm := hm) (hu := by first | exact undState) (hi := by (try simp only [rowOf_size]); first | exact sizeState) (h := ?_); (try simp only [Act.put, k1, k2, k3]); (try simp only [← idV_eq])) | refine wlLC (hm := hm) (hu := by first | exact undU32) (h := ?_) | (refine wlS (hm := hm) (hv := (by first | rfl | exact idV_eq _ | exact labV_eq _ _ | exact rectV_eq _ _ _ _)) (hi := by (try simp only [rowOf_size]); first | exact sizeState) (hs := by first | (simp only [rowOf_size]; done) | rfl) (h := ?_); clear hm; intro w1 hm; (try simp only [rowOf_set, k1, k2, k3, Value.cells, Act.eval, k7, k8, k9, kA, Option.getD_some] at hm)) | (refine wlSC (hm := hm) (hi := by first | exact sizeU32) (ho := by first | decide | (simp only [rowOf_size]; omega) | (simp; done)) (h := ?_); clear hm; intro w1 hm; (try simp only [rowOf_set, k1, k2, k3, Value.cells, Act.eval, k7, k8, k9, kA, Option.getD_some] at hm)) | (refine wlA (hz := by first | exact zeroState) (hm := hm) (h := ?_); clear hm; intro b1 w1 hm; (try simp only [rowOf_set, k1, k2, k3, Value.cells, Act.eval, k7, k8, k9, kA, Option.getD_some] at hm)) | (refine wl_box (by rfl) rfl (by first | exact idV_cells _ | exact labV_cells _ _ | exact rectV_cells _ _ _ _ | rfl) hm ?_; clear hm; intro b1 w1 hm) | (refine wl_build (by rfl) (built_state _ _ _ _ _) rfl ?_; (try simp only [Act.put, k1, k2, k3]); (try simp only [← idV_eq]))); (try simp only [k4, k5, k6, Act.put, k1, k2, k3]))
  refine bodyPost_ret (results_cell_row (h := rfl) _ _ _ _ _ _ _ rfl (hm.heap (i := 0) rfl) undState rfl (by first | exact sizeState | (simp only [rowOf_size]; exact sizeState))) rfl ?_
  exact ⟨by simp only [stV_eq]; try rfl, hm.ext⟩
theorem refStart_c (w : World) : Calls Try.prog 50 #[] w fun e w' => e = .returned (stV 1732584193 4023233417 2562383102 271733878 3285377520) ∧ Ext w w' := by
  go_enter Try.func50, Try.ntmps50
  have hm := Mem.refl w []
  go_wp2_with ((first | refine wpList_skip (by rfl) ?_ | (refine wlL (hm := hm) (hu := by first | exact undState) (hi := by (try simp only [rowOf_size]); first | exact sizeState) (h := ?_); (try simp only [Act.put, k1, k2, k3]); (try simp only [← idV_eq])) | refine wlLC (hm := hm) (hu := by first | exact undU32) (h := ?_) | (refine wlS (hm := hm) (hv := (by first | rfl | exact idV_eq _ | exact labV_eq _ _ | exact rectV_eq _ _ _ _)) (hi := by (try simp only [rowOf_size]); first | exact sizeState) (hs := by first | (simp only [rowOf_size]; done) | rfl) (h := ?_); clear hm; intro w1 hm; (try simp only [rowOf_set, k1, k2, k3, Value.cells, Act.eval, k7, k8, k9, kA, Option.getD_some] at hm)) | (refine wlSC (hm := hm) (hi := by first | exact sizeU32) (ho := by first | decide | (simp only [rowOf_size]; omega) | (simp; done)) (h := ?_); clear hm; intro w1 hm; (try simp only [rowOf_set, k1, k2, k3, Value.cells, Act.eval, k7, k8, k9, kA, Option.getD_some] at hm)) | (refine wlA (hz := by first | exact zeroState) (hm := hm) (h := ?_); clear hm; intro b1 w1 hm; (try simp only [rowOf_set, k1, k2, k3, Value.cells, Act.eval, k7, k8, k9, kA, Option.getD_some] at hm)) | (refine wl_box (by rfl) rfl (by first | exact idV_cells _ | exact labV_cells _ _ | exact rectV_cells _ _ _ _ | rfl) hm ?_; clear hm; intro b1 w1 hm) | (refine wl_build (by rfl) (built_state _ _ _ _ _) rfl ?_; (try simp only [Act.put, k1, k2, k3]); (try simp only [← idV_eq]))); (try simp only [k4, k5, k6, Act.put, k1, k2, k3]))
  refine bodyPost_ret (results_cell_row (h := rfl) _ _ _ _ _ _ _ rfl (hm.heap (i := 0) rfl) undState rfl (by first | exact sizeState | (simp only [rowOf_size]; exact sizeState))) rfl ?_
  exact ⟨by simp only [stV_eq]; try rfl, hm.ext⟩
end Go.Proofs.Ytdlfgoiakkkilaa
