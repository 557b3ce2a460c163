/-
  Labels, continued: Covers, Span, Child.
-/
import Derived.Test.YtdlfgoiakkkilaaMem6
import Derived.Test.YtdlfgoiakkkilaaLabA
namespace Go.Proofs.Ytdlfgoiakkkilaa
open Go.RowKit
set_option linter.unusedSimpArgs false
set_option linter.unusedVariables false
set_option maxHeartbeats 400000
set_option maxRecDepth 20000
attribute [local irreducible] wpQuiet wpList wpAnyH Calls

theorem is_true (len : Int) (b : Nat) (hb : b < 2 ^ 64) (h : isL len b = true) (w : World) :
    Calls Try.prog 17 #[labV len b] w fun e w' => e = .returned (.bool true) ∧ Ext w w' := by
  have := is_c len b hb w; rw [h] at this; exact this
theorem is_false (len : Int) (b : Nat) (hb : b < 2 ^ 64) (h : isL len b = false) (w : World) :
    Calls Try.prog 17 #[labV len b] w fun e w' => e = .returned (.bool false) ∧ Ext w w' := by
  have := is_c len b hb w; rw [h] at this; exact this
theorem built_zeroL : Try.prog.built 24 [] = some #[.int .i64 0, .int .u64 0] := by kernel_rfl

theorem covers_true (n b key : Nat) (hl : isL (n : Int) b = true) (hb : b < 2 ^ 64) (hk : key < 2 ^ 64) (hn : n ≤ 64) (w : World) :
    Calls Try.prog 34 #[labV (n : Int) b, .int .u64 (key : Int)] w fun e w' => e = .returned (.bool (((hd key n : Nat) : Int) == (b : Int))) ∧ Ext w w' := by
  go_enter Try.func34, Try.ntmps34
  have hm := Mem.refl w []
  go_wp2_with ((first | refine wpList_skip (by rfl) ?_ | (refine wlL (hm := hm) (hu := by first | exact undLabel) (hi := by (try simp only [rowOf_size]); first | exact sizeLabel) (h := ?_); (try simp only [Act.put, k1, k2, k3]); (try simp only [← labV_eq])) | refine wlLC (hm := hm) (hu := by first | exact undInt | exact undU64) (h := ?_) | (refine wlS (hm := hm) (hv := (by first | rfl | exact idV_eq _ | exact labV_eq _ _ | exact rectV_eq _ _ _ _)) (hi := by (try simp only [rowOf_size]); first | exact sizeLabel) (hs := by first | (simp only [rowOf_size]; done) | rfl) (h := ?_); clear hm; intro w1 hm; (try simp only [rowOf_set, k1, k2, k3, Value.cells, Act.eval, k7, k8, k9, kA, Option.getD_some] at hm)) | (refine wlSC (hm := hm) (hi := by first | exact sizeInt | exact sizeU64) (ho := by first | decide | (simp only [rowOf_size]; omega) | (simp; done)) (h := ?_); clear hm; intro w1 hm; (try simp only [rowOf_set, k1, k2, k3, Value.cells, Act.eval, k7, k8, k9, kA, Option.getD_some] at hm)) | (refine wlA (hz := by first | exact zeroLabel) (hm := hm) (h := ?_); clear hm; intro b1 w1 hm; (try simp only [rowOf_set, k1, k2, k3, Value.cells, Act.eval, k7, k8, k9, kA, Option.getD_some] at hm)) | (refine wl_box (by rfl) rfl (by first | exact idV_cells _ | exact labV_cells _ _ | exact rectV_cells _ _ _ _ | rfl) hm ?_; clear hm; intro b1 w1 hm) | (refine wl_build (by rfl) (built_zeroL) rfl ?_; (try simp only [Act.put, k1, k2, k3]); (try simp only [← labV_eq])) | (go_at_call 17; refine (is_true _ _ hb hl _).mono ?_; rintro e w1 ⟨rfl, hx⟩; replace hm := hm.call hx; clear hx) | (go_at_call 56; refine (head_c _ _ hk hn _).mono ?_; rintro e w1 ⟨rfl, hx⟩; replace hm := hm.call hx; clear hx) | (go_at_call 53; refine (bit_c _ h63 _).mono ?_; rintro e w1 ⟨rfl, hx⟩; replace hm := hm.call hx; clear hx)); (try simp only [k4, k5, k6, Act.put, k1, k2, k3]))
  go_wp2_with (with_reducible first | refine stAl ?_ | refine stBo ?_ | refine stLo ?_ | refine stSo ?_ | refine stBu ?_ | refine stBs ?_ | refine stMs ?_ | refine stAp ?_ | refine stCo ?_); refine wp_quiet_mem (by kernel_rfl) (by kernel_rfl) hm ?_
  repeat ((first | refine wq_skip (by rfl) ?_ | (refine wqL (hu := by first | exact undLabel) (hi := by (try simp only [rowOf_size]); first | exact sizeLabel) (h := ?_); (try simp only [Act.put, k1, k2, k3]); (try simp only [← labV_eq])) | refine wqLC (hu := by first | exact undInt | exact undU64) (h := ?_) | ((with_reducible show wpQuiet _ _ _ _ (⟨_, .call _, _, _, _, _⟩ :: _) _); refine wq_ask (by rfl) ?_; apply Exists.intro; refine ⟨?_, ?_⟩; (focus (intro w hC; go_simp; first | (go_at_call 17; exact (is_true _ _ hb hl _).mono fun e w' h => ⟨h.1, hC.call h.2⟩) | (go_at_call 56; exact (head_c _ _ hk hn _).mono fun e w' h => ⟨h.1, hC.call h.2⟩) | (go_at_call 53; exact (bit_c _ h63 _).mono fun e w' h => ⟨h.1, hC.call h.2⟩)))) | (refine wq_build (by rfl) (built_zeroL) rfl ?_; (try simp only [Act.put, k1, k2, k3]); (try simp only [← labV_eq])) | refine wqS (h := ?_)); (try simp only [k4, k5, k6, Act.put, k1, k2, k3]))
  refine wpQuiet_nil ?_; clear hm; intro w2 hm
  go_wp2_with (with_reducible first | refine stAl ?_ | refine stBo ?_ | refine stLo ?_ | refine stSo ?_ | refine stBu ?_ | refine stBs ?_ | refine stMs ?_ | refine stAp ?_ | refine stCo ?_)
  go_ret
  exact ⟨rfl, hm.ext⟩

theorem covers_false (len : Int) (b : Nat) (key : Int) (hl : isL len b = false) (hb : b < 2 ^ 64) (w : World) :
    Calls Try.prog 34 #[labV len b, .int .u64 key] w fun e w' => e = .returned (.bool false) ∧ Ext w w' := by
  go_enter Try.func34, Try.ntmps34
  have hm := Mem.refl w []
  go_wp2_with ((first | refine wpList_skip (by rfl) ?_ | (refine wlL (hm := hm) (hu := by first | exact undLabel) (hi := by (try simp only [rowOf_size]); first | exact sizeLabel) (h := ?_); (try simp only [Act.put, k1, k2, k3]); (try simp only [← labV_eq])) | refine wlLC (hm := hm) (hu := by first | exact undInt | exact undU64) (h := ?_) | (refine wlS (hm := hm) (hv := (by first | rfl | exact idV_eq _ | exact labV_eq _ _ | exact rectV_eq _ _ _ _)) (hi := by (try simp only [rowOf_size]); first | exact sizeLabel) (hs := by first | (simp only [rowOf_size]; done) | rfl) (h := ?_); clear hm; intro w1 hm; (try simp only [rowOf_set, k1, k2, k3, Value.cells, Act.eval, k7, k8, k9, kA, Option.getD_some] at hm)) | (refine wlSC (hm := hm) (hi := by first | exact sizeInt | exact sizeU64) (ho := by first | decide | (simp only [rowOf_size]; omega) | (simp; done)) (h := ?_); clear hm; intro w1 hm; (try simp only [rowOf_set, k1, k2, k3, Value.cells, Act.eval, k7, k8, k9, kA, Option.getD_some] at hm)) | (refine wlA (hz := by first | exact zeroLabel) (hm := hm) (h := ?_); clear hm; intro b1 w1 hm; (try simp only [rowOf_set, k1, k2, k3, Value.cells, Act.eval, k7, k8, k9, kA, Option.getD_some] at hm)) | (refine wl_box (by rfl) rfl (by first | exact idV_cells _ | exact labV_cells _ _ | exact rectV_cells _ _ _ _ | rfl) hm ?_; clear hm; intro b1 w1 hm) | (refine wl_build (by rfl) (built_zeroL) rfl ?_; (try simp only [Act.put, k1, k2, k3]); (try simp only [← labV_eq])) | (go_at_call 17; refine (is_false _ _ hb hl _).mono ?_; rintro e w1 ⟨rfl, hx⟩; replace hm := hm.call hx; clear hx)); (try simp only [k4, k5, k6, Act.put, k1, k2, k3]))
  go_wp2_with (with_reducible first | refine stAl ?_ | refine stBo ?_ | refine stLo ?_ | refine stSo ?_ | refine stBu ?_ | refine stBs ?_ | refine stMs ?_ | refine stAp ?_ | refine stCo ?_); refine wp_quiet_mem (by kernel_rfl) (by kernel_rfl) hm ?_
  repeat ((first | refine wq_skip (by rfl) ?_ | (refine wqL (hu := by first | exact undLabel) (hi := by (try simp only [rowOf_size]); first | exact sizeLabel) (h := ?_); (try simp only [Act.put, k1, k2, k3]); (try simp only [← labV_eq])) | refine wqLC (hu := by first | exact undInt | exact undU64) (h := ?_) | ((with_reducible show wpQuiet _ _ _ _ (⟨_, .call _, _, _, _, _⟩ :: _) _); refine wq_ask (by rfl) ?_; apply Exists.intro; refine ⟨?_, ?_⟩; (focus (intro w hC; go_simp; first | (go_at_call 17; exact (is_false _ _ hb hl _).mono fun e w' h => ⟨h.1, hC.call h.2⟩)))) | (refine wq_build (by rfl) (built_zeroL) rfl ?_; (try simp only [Act.put, k1, k2, k3]); (try simp only [← labV_eq])) | refine wqS (h := ?_)); (try simp only [k4, k5, k6, Act.put, k1, k2, k3]))
  refine wpQuiet_nil ?_; clear hm; intro w2 hm
  go_wp2_with (with_reducible first | refine stAl ?_ | refine stBo ?_ | refine stLo ?_ | refine stSo ?_ | refine stBu ?_ | refine stBs ?_ | refine stMs ?_ | refine stAp ?_ | refine stCo ?_)
  go_ret
  exact ⟨rfl, hm.ext⟩

/-- The highest key of a label. -/
def hiL (n b : Nat) : Nat := b + (2 ^ (64 - n) - 1)
theorem or_low (b k : Nat) (h : b % 2 ^ k = 0) : b ||| (2 ^ k - 1) = b + (2 ^ k - 1) := by
  have hp : 0 < 2 ^ k := Nat.pow_pos (by omega)
  obtain ⟨q, rfl⟩ : ∃ q, b = 2 ^ k * q := ⟨b / 2 ^ k, by have := Nat.div_add_mod b (2 ^ k); omega⟩
  rw [Nat.two_pow_add_eq_or_of_lt (show 2 ^ k - 1 < 2 ^ k by omega)]
theorem hd_mod (b n : Nat) (h : hd b n = b) : b % 2 ^ (64 - n) = 0 := by rw [← h, hd_eq]; exact Nat.mul_mod_left _ _
theorem isL_mod (n b : Nat) (hl : isL (n : Int) b = true) : b % 2 ^ (64 - n) = 0 := hd_mod b n (by have := ((isL_iff _ _).1 hl).2.2; simpa using this)
theorem pow64_le (k : Nat) (h : k ≤ 64) : 2 ^ k ≤ 2 ^ 64 := Nat.pow_le_pow_right (by omega) h
theorem hiL_lt (n b : Nat) (hl : isL (n : Int) b = true) (hn : n ≤ 64) (hb : b < 2 ^ 64) : hiL n b < 2 ^ 64 := by
  have h := isL_mod n b hl
  have hp : 0 < 2 ^ (64 - n) := Nat.pow_pos (by omega)
  obtain ⟨q, rfl⟩ : ∃ q, b = 2 ^ (64 - n) * q := ⟨b / 2 ^ (64 - n), by have := Nat.div_add_mod b (2 ^ (64 - n)); omega⟩
  unfold hiL
  have hq : q < 2 ^ n := by
    refine Nat.lt_of_mul_lt_mul_left (a := 2 ^ (64 - n)) ?_
    rw [← Nat.pow_add, show 64 - n + n = 64 from by omega]; exact hb
  have := Nat.mul_le_mul_left (2 ^ (64 - n)) (show q + 1 ≤ 2 ^ n from hq)
  rw [← Nat.pow_add, show 64 - n + n = 64 from by omega, Nat.mul_add] at this
  omega

theorem pow64_lt (k : Nat) (h : k < 64) : 2 ^ k < 2 ^ 64 := Nat.pow_lt_pow_right (by omega) h
theorem span_true (n b : Nat) (hl : isL (n : Int) b = true) (hb : b < 2 ^ 64) (hn : n ≤ 64) (w : World) :
    Calls Try.prog 26 #[labV (n : Int) b] w fun e w' => e = .returned (.tuple #[.int .u64 (b : Int), .int .u64 ((hiL n b : Nat) : Int), .int .i64 0]) ∧ Ext w w' := by
  have s1 := shr_all n hn
  have s2 : bits .or .u64 (b : Int) ((2 ^ (64 - n) - 1 : Nat) : Int) = ((hiL n b : Nat) : Int) := by
    have hp := pow64_le (64 - n) (by omega)
    rw [u64_or_nat _ _ hb (by omega), or_low _ _ (isL_mod n b hl)]; rfl
  go_enter Try.func26, Try.ntmps26
  have hm := Mem.refl w []
  go_wp2_with ((first | refine wpList_skip (by rfl) ?_ | (refine wlL (hm := hm) (hu := by first | exact undLabel) (hi := by (try simp only [rowOf_size]); first | exact sizeLabel) (h := ?_); (try simp only [Act.put, k1, k2, k3]); (try simp only [← labV_eq])) | refine wlLC (hm := hm) (hu := by first | exact undInt | exact undU64) (h := ?_) | (refine wlS (hm := hm) (hv := (by first | rfl | exact idV_eq _ | exact labV_eq _ _ | exact rectV_eq _ _ _ _)) (hi := by (try simp only [rowOf_size]); first | exact sizeLabel) (hs := by first | (simp only [rowOf_size]; done) | rfl) (h := ?_); clear hm; intro w1 hm; (try simp only [rowOf_set, k1, k2, k3, Value.cells, Act.eval, k7, k8, k9, kA, Option.getD_some] at hm)) | (refine wlSC (hm := hm) (hi := by first | exact sizeInt | exact sizeU64) (ho := by first | decide | (simp only [rowOf_size]; omega) | (simp; done)) (h := ?_); clear hm; intro w1 hm; (try simp only [rowOf_set, k1, k2, k3, Value.cells, Act.eval, k7, k8, k9, kA, Option.getD_some] at hm)) | (refine wlA (hz := by first | exact zeroLabel) (hm := hm) (h := ?_); clear hm; intro b1 w1 hm; (try simp only [rowOf_set, k1, k2, k3, Value.cells, Act.eval, k7, k8, k9, kA, Option.getD_some] at hm)) | (refine wl_box (by rfl) rfl (by first | exact idV_cells _ | exact labV_cells _ _ | exact rectV_cells _ _ _ _ | rfl) hm ?_; clear hm; intro b1 w1 hm) | (refine wl_build (by rfl) (built_zeroL) rfl ?_; (try simp only [Act.put, k1, k2, k3]); (try simp only [← labV_eq])) | (go_at_call 17; refine (is_true _ _ hb hl _).mono ?_; rintro e w1 ⟨rfl, hx⟩; replace hm := hm.call hx; clear hx) | (go_at_call 56; refine (head_c _ _ hk hn _).mono ?_; rintro e w1 ⟨rfl, hx⟩; replace hm := hm.call hx; clear hx) | (go_at_call 53; refine (bit_c _ h63 _).mono ?_; rintro e w1 ⟨rfl, hx⟩; replace hm := hm.call hx; clear hx)); (try simp only [k4, k5, k6, Act.put, k1, k2, k3]))
  go_wp2_with (with_reducible first | refine stAl ?_ | refine stBo ?_ | refine stLo ?_ | refine stSo ?_ | refine stBu ?_ | refine stBs ?_ | refine stMs ?_ | refine stAp ?_ | refine stCo ?_); refine wp_quiet_mem (by kernel_rfl) (by kernel_rfl) hm ?_
  repeat ((first | refine wq_skip (by rfl) ?_ | (refine wqL (hu := by first | exact undLabel) (hi := by (try simp only [rowOf_size]); first | exact sizeLabel) (h := ?_); (try simp only [Act.put, k1, k2, k3]); (try simp only [← labV_eq])) | refine wqLC (hu := by first | exact undInt | exact undU64) (h := ?_) | ((with_reducible show wpQuiet _ _ _ _ (⟨_, .call _, _, _, _, _⟩ :: _) _); refine wq_ask (by rfl) ?_; apply Exists.intro; refine ⟨?_, ?_⟩; (focus (intro w hC; go_simp; first | (go_at_call 17; exact (is_true _ _ hb hl _).mono fun e w' h => ⟨h.1, hC.call h.2⟩) | (go_at_call 56; exact (head_c _ _ hk hn _).mono fun e w' h => ⟨h.1, hC.call h.2⟩) | (go_at_call 53; exact (bit_c _ h63 _).mono fun e w' h => ⟨h.1, hC.call h.2⟩)))) | (refine wq_build (by rfl) (built_zeroL) rfl ?_; (try simp only [Act.put, k1, k2, k3]); (try simp only [← labV_eq])) | refine wqS (h := ?_)); (try simp only [k4, k5, k6, Act.put, k1, k2, k3]))
  refine wpQuiet_nil ?_; clear hm; intro w2 hm
  go_wp2_with (with_reducible first | refine stAl ?_ | refine stBo ?_ | refine stLo ?_ | refine stSo ?_ | refine stBu ?_ | refine stBs ?_ | refine stMs ?_ | refine stAp ?_ | refine stCo ?_)
  go_ret3
  exact ⟨rfl, hm.ext⟩

theorem span_false (len : Int) (b : Nat) (hl : isL len b = false) (hb : b < 2 ^ 64) (w : World) :
    Calls Try.prog 26 #[labV len b] w fun e w' => e = .returned (.tuple #[.int .u64 0, .int .u64 0, .int .i64 1]) ∧ Ext w w' := by
  go_enter Try.func26, Try.ntmps26
  have hm := Mem.refl w []
  go_wp2_with ((first | refine wpList_skip (by rfl) ?_ | (refine wlL (hm := hm) (hu := by first | exact undLabel) (hi := by (try simp only [rowOf_size]); first | exact sizeLabel) (h := ?_); (try simp only [Act.put, k1, k2, k3]); (try simp only [← labV_eq])) | refine wlLC (hm := hm) (hu := by first | exact undInt | exact undU64) (h := ?_) | (refine wlS (hm := hm) (hv := (by first | rfl | exact idV_eq _ | exact labV_eq _ _ | exact rectV_eq _ _ _ _)) (hi := by (try simp only [rowOf_size]); first | exact sizeLabel) (hs := by first | (simp only [rowOf_size]; done) | rfl) (h := ?_); clear hm; intro w1 hm; (try simp only [rowOf_set, k1, k2, k3, Value.cells, Act.eval, k7, k8, k9, kA, Option.getD_some] at hm)) | (refine wlSC (hm := hm) (hi := by first | exact sizeInt | exact sizeU64) (ho := by first | decide | (simp only [rowOf_size]; omega) | (simp; done)) (h := ?_); clear hm; intro w1 hm; (try simp only [rowOf_set, k1, k2, k3, Value.cells, Act.eval, k7, k8, k9, kA, Option.getD_some] at hm)) | (refine wlA (hz := by first | exact zeroLabel) (hm := hm) (h := ?_); clear hm; intro b1 w1 hm; (try simp only [rowOf_set, k1, k2, k3, Value.cells, Act.eval, k7, k8, k9, kA, Option.getD_some] at hm)) | (refine wl_box (by rfl) rfl (by first | exact idV_cells _ | exact labV_cells _ _ | exact rectV_cells _ _ _ _ | rfl) hm ?_; clear hm; intro b1 w1 hm) | (refine wl_build (by rfl) (built_zeroL) rfl ?_; (try simp only [Act.put, k1, k2, k3]); (try simp only [← labV_eq])) | (go_at_call 17; refine (is_false _ _ hb hl _).mono ?_; rintro e w1 ⟨rfl, hx⟩; replace hm := hm.call hx; clear hx)); (try simp only [k4, k5, k6, Act.put, k1, k2, k3]))
  go_ret3
  exact ⟨rfl, hm.ext⟩

theorem bit_c (n : Nat) (h63 : n < 64) (w : World) :
    Calls Try.prog 53 #[.int .i64 (n : Int)] w fun e w' => e = .returned (.int .u64 ((2 ^ (63 - n) : Nat) : Int)) ∧ Ext w w' := by
  have w1 : IntKind.i64.wrap (63 - (n : Int)) = 63 - (n : Int) := wrap_i64 (by omega) (by omega)
  have g0 : (0 : Int) ≤ 63 - (n : Int) := by omega
  have g1 : 63 - (n : Int) ≤ 64 := by omega
  have hp := pow64_lt (63 - n) (by omega)
  have w2 : IntKind.u64.wrap ((2 : Int) ^ (63 - n)) = ((2 ^ (63 - n) : Nat) : Int) := by
    rw [show (2 : Int) ^ (63 - n) = ((2 ^ (63 - n) : Nat) : Int) from by norm_cast]
    exact wrap_u64 (Int.natCast_nonneg _) (Int.ofNat_lt.2 (show 2 ^ (63 - n) < 18446744073709551616 from hp))
  go_enter Try.func53, Try.ntmps53
  go_wp2_with (with_reducible first | refine stAl ?_ | refine stBo ?_ | refine stLo ?_ | refine stSo ?_ | refine stBu ?_ | refine stBs ?_ | refine stMs ?_ | refine stAp ?_ | refine stCo ?_)
  go_ret
  exact ⟨rfl, Ext.refl _⟩

theorem or_bit (b n : Nat) (h : b % 2 ^ (64 - n) = 0) (hn : n < 64) : b ||| 2 ^ (63 - n) = b + 2 ^ (63 - n) := by
  have hp : 0 < 2 ^ (63 - n) := Nat.pow_pos (by omega)
  rw [show 64 - n = 63 - n + 1 from by omega] at h
  obtain ⟨q, rfl⟩ : ∃ q, b = 2 ^ (63 - n + 1) * q := ⟨b / 2 ^ (63 - n + 1), (Nat.mul_div_cancel' (Nat.dvd_of_mod_eq_zero h)).symm⟩
  rw [Nat.two_pow_add_eq_or_of_lt (show 2 ^ (63 - n) < 2 ^ (63 - n + 1) by rw [Nat.pow_succ]; omega)]

/-- A child. -/
theorem child_arg (len : Int) (b : Nat) (c : Int) (hb : b < 2 ^ 64) (h : isL len b = false ∨ c < 0 ∨ 1 < c) (w : World) :
    Calls Try.prog 20 #[labV len b, .int .i64 c] w fun e w' => e = .returned (.tuple #[labV 0 0, .int .i64 1]) ∧ Ext w w' := by
  cases hl : isL len b with
  | false =>
    clear h
    go_enter Try.func20, Try.ntmps20
    have hm := Mem.refl w []
    go_wp2_with ((first | refine wpList_skip (by rfl) ?_ | (refine wlL (hm := hm) (hu := by first | exact undLabel) (hi := by (try simp only [rowOf_size]); first | exact sizeLabel) (h := ?_); (try simp only [Act.put, k1, k2, k3]); (try simp only [← labV_eq])) | refine wlLC (hm := hm) (hu := by first | exact undInt | exact undU64) (h := ?_) | (refine wlS (hm := hm) (hv := (by first | rfl | exact idV_eq _ | exact labV_eq _ _ | exact rectV_eq _ _ _ _)) (hi := by (try simp only [rowOf_size]); first | exact sizeLabel) (hs := by first | (simp only [rowOf_size]; done) | rfl) (h := ?_); clear hm; intro w1 hm; (try simp only [rowOf_set, k1, k2, k3, Value.cells, Act.eval, k7, k8, k9, kA, Option.getD_some] at hm)) | (refine wlSC (hm := hm) (hi := by first | exact sizeInt | exact sizeU64) (ho := by first | decide | (simp only [rowOf_size]; omega) | (simp; done)) (h := ?_); clear hm; intro w1 hm; (try simp only [rowOf_set, k1, k2, k3, Value.cells, Act.eval, k7, k8, k9, kA, Option.getD_some] at hm)) | (refine wlA (hz := by first | exact zeroLabel) (hm := hm) (h := ?_); clear hm; intro b1 w1 hm; (try simp only [rowOf_set, k1, k2, k3, Value.cells, Act.eval, k7, k8, k9, kA, Option.getD_some] at hm)) | (refine wl_box (by rfl) rfl (by first | exact idV_cells _ | exact labV_cells _ _ | exact rectV_cells _ _ _ _ | rfl) hm ?_; clear hm; intro b1 w1 hm) | (refine wl_build (by rfl) (built_zeroL) rfl ?_; (try simp only [Act.put, k1, k2, k3]); (try simp only [← labV_eq])) | (go_at_call 17; refine (is_false _ _ hb hl _).mono ?_; rintro e w1 ⟨rfl, hx⟩; replace hm := hm.call hx; clear hx)); (try simp only [k4, k5, k6, Act.put, k1, k2, k3]))
    refine bodyPost_ret (results_row_tmp (h := rfl) _ _ _ _ _ _ _ rfl (hm.heap (i := 0) rfl) undLabel rfl (by first | exact sizeLabel | (simp only [rowOf_size]; exact sizeLabel))) rfl ?_
    exact ⟨by simp only [labV_eq]; rfl, hm.ext⟩
  | true =>
    rw [hl] at h
    by_cases h0 : c < 0
    · have d0 : decide (c < 0) = true := decide_eq_true h0
      clear h
      go_enter Try.func20, Try.ntmps20
      have hm := Mem.refl w []
      go_wp2_with ((first | refine wpList_skip (by rfl) ?_ | (refine wlL (hm := hm) (hu := by first | exact undLabel) (hi := by (try simp only [rowOf_size]); first | exact sizeLabel) (h := ?_); (try simp only [Act.put, k1, k2, k3]); (try simp only [← labV_eq])) | refine wlLC (hm := hm) (hu := by first | exact undInt | exact undU64) (h := ?_) | (refine wlS (hm := hm) (hv := (by first | rfl | exact idV_eq _ | exact labV_eq _ _ | exact rectV_eq _ _ _ _)) (hi := by (try simp only [rowOf_size]); first | exact sizeLabel) (hs := by first | (simp only [rowOf_size]; done) | rfl) (h := ?_); clear hm; intro w1 hm; (try simp only [rowOf_set, k1, k2, k3, Value.cells, Act.eval, k7, k8, k9, kA, Option.getD_some] at hm)) | (refine wlSC (hm := hm) (hi := by first | exact sizeInt | exact sizeU64) (ho := by first | decide | (simp only [rowOf_size]; omega) | (simp; done)) (h := ?_); clear hm; intro w1 hm; (try simp only [rowOf_set, k1, k2, k3, Value.cells, Act.eval, k7, k8, k9, kA, Option.getD_some] at hm)) | (refine wlA (hz := by first | exact zeroLabel) (hm := hm) (h := ?_); clear hm; intro b1 w1 hm; (try simp only [rowOf_set, k1, k2, k3, Value.cells, Act.eval, k7, k8, k9, kA, Option.getD_some] at hm)) | (refine wl_box (by rfl) rfl (by first | exact idV_cells _ | exact labV_cells _ _ | exact rectV_cells _ _ _ _ | rfl) hm ?_; clear hm; intro b1 w1 hm) | (refine wl_build (by rfl) (built_zeroL) rfl ?_; (try simp only [Act.put, k1, k2, k3]); (try simp only [← labV_eq])) | (go_at_call 17; refine (is_true _ _ hb hl _).mono ?_; rintro e w1 ⟨rfl, hx⟩; replace hm := hm.call hx; clear hx) | (go_at_call 56; refine (head_c _ _ hk hn _).mono ?_; rintro e w1 ⟨rfl, hx⟩; replace hm := hm.call hx; clear hx) | (go_at_call 53; refine (bit_c _ h63 _).mono ?_; rintro e w1 ⟨rfl, hx⟩; replace hm := hm.call hx; clear hx)); (try simp only [k4, k5, k6, Act.put, k1, k2, k3]))
      refine bodyPost_ret (results_row_tmp (h := rfl) _ _ _ _ _ _ _ rfl (hm.heap (i := 0) rfl) undLabel rfl (by first | exact sizeLabel | (simp only [rowOf_size]; exact sizeLabel))) rfl ?_
      exact ⟨by simp only [labV_eq]; rfl, hm.ext⟩
    · have d0 : decide (c < 0) = false := decide_eq_false h0
      have d1 : decide (1 < c) = true := decide_eq_true (by rcases h with h | h | h; cases h; omega; omega)
      clear h
      go_enter Try.func20, Try.ntmps20
      have hm := Mem.refl w []
      go_wp2_with ((first | refine wpList_skip (by rfl) ?_ | (refine wlL (hm := hm) (hu := by first | exact undLabel) (hi := by (try simp only [rowOf_size]); first | exact sizeLabel) (h := ?_); (try simp only [Act.put, k1, k2, k3]); (try simp only [← labV_eq])) | refine wlLC (hm := hm) (hu := by first | exact undInt | exact undU64) (h := ?_) | (refine wlS (hm := hm) (hv := (by first | rfl | exact idV_eq _ | exact labV_eq _ _ | exact rectV_eq _ _ _ _)) (hi := by (try simp only [rowOf_size]); first | exact sizeLabel) (hs := by first | (simp only [rowOf_size]; done) | rfl) (h := ?_); clear hm; intro w1 hm; (try simp only [rowOf_set, k1, k2, k3, Value.cells, Act.eval, k7, k8, k9, kA, Option.getD_some] at hm)) | (refine wlSC (hm := hm) (hi := by first | exact sizeInt | exact sizeU64) (ho := by first | decide | (simp only [rowOf_size]; omega) | (simp; done)) (h := ?_); clear hm; intro w1 hm; (try simp only [rowOf_set, k1, k2, k3, Value.cells, Act.eval, k7, k8, k9, kA, Option.getD_some] at hm)) | (refine wlA (hz := by first | exact zeroLabel) (hm := hm) (h := ?_); clear hm; intro b1 w1 hm; (try simp only [rowOf_set, k1, k2, k3, Value.cells, Act.eval, k7, k8, k9, kA, Option.getD_some] at hm)) | (refine wl_box (by rfl) rfl (by first | exact idV_cells _ | exact labV_cells _ _ | exact rectV_cells _ _ _ _ | rfl) hm ?_; clear hm; intro b1 w1 hm) | (refine wl_build (by rfl) (built_zeroL) rfl ?_; (try simp only [Act.put, k1, k2, k3]); (try simp only [← labV_eq])) | (go_at_call 17; refine (is_true _ _ hb hl _).mono ?_; rintro e w1 ⟨rfl, hx⟩; replace hm := hm.call hx; clear hx) | (go_at_call 56; refine (head_c _ _ hk hn _).mono ?_; rintro e w1 ⟨rfl, hx⟩; replace hm := hm.call hx; clear hx) | (go_at_call 53; refine (bit_c _ h63 _).mono ?_; rintro e w1 ⟨rfl, hx⟩; replace hm := hm.call hx; clear hx)); (try simp only [k4, k5, k6, Act.put, k1, k2, k3]))
      refine bodyPost_ret (results_row_tmp (h := rfl) _ _ _ _ _ _ _ rfl (hm.heap (i := 0) rfl) undLabel rfl (by first | exact sizeLabel | (simp only [rowOf_size]; exact sizeLabel))) rfl ?_
      exact ⟨by simp only [labV_eq]; rfl, hm.ext⟩
theorem child_range (b : Nat) (c : Int) (hb : b < 2 ^ 64) (hl : isL 64 b = true) (h0 : 0 ≤ c) (h1 : c ≤ 1) (w : World) :
    Calls Try.prog 20 #[labV 64 b, .int .i64 c] w fun e w' => e = .returned (.tuple #[labV 0 0, .int .i64 5]) ∧ Ext w w' := by
  have d0 : decide (c < 0) = false := decide_eq_false (by omega)
  have d1 : decide (1 < c) = false := decide_eq_false (by omega)
  go_enter Try.func20, Try.ntmps20
  have hm := Mem.refl w []
  go_wp2_with ((first | refine wpList_skip (by rfl) ?_ | (refine wlL (hm := hm) (hu := by first | exact undLabel) (hi := by (try simp only [rowOf_size]); first | exact sizeLabel) (h := ?_); (try simp only [Act.put, k1, k2, k3]); (try simp only [← labV_eq])) | refine wlLC (hm := hm) (hu := by first | exact undInt | exact undU64) (h := ?_) | (refine wlS (hm := hm) (hv := (by first | rfl | exact idV_eq _ | exact labV_eq _ _ | exact rectV_eq _ _ _ _)) (hi := by (try simp only [rowOf_size]); first | exact sizeLabel) (hs := by first | (simp only [rowOf_size]; done) | rfl) (h := ?_); clear hm; intro w1 hm; (try simp only [rowOf_set, k1, k2, k3, Value.cells, Act.eval, k7, k8, k9, kA, Option.getD_some] at hm)) | (refine wlSC (hm := hm) (hi := by first | exact sizeInt | exact sizeU64) (ho := by first | decide | (simp only [rowOf_size]; omega) | (simp; done)) (h := ?_); clear hm; intro w1 hm; (try simp only [rowOf_set, k1, k2, k3, Value.cells, Act.eval, k7, k8, k9, kA, Option.getD_some] at hm)) | (refine wlA (hz := by first | exact zeroLabel) (hm := hm) (h := ?_); clear hm; intro b1 w1 hm; (try simp only [rowOf_set, k1, k2, k3, Value.cells, Act.eval, k7, k8, k9, kA, Option.getD_some] at hm)) | (refine wl_box (by rfl) rfl (by first | exact idV_cells _ | exact labV_cells _ _ | exact rectV_cells _ _ _ _ | rfl) hm ?_; clear hm; intro b1 w1 hm) | (refine wl_build (by rfl) (built_zeroL) rfl ?_; (try simp only [Act.put, k1, k2, k3]); (try simp only [← labV_eq])) | (go_at_call 17; refine (is_true _ _ hb hl _).mono ?_; rintro e w1 ⟨rfl, hx⟩; replace hm := hm.call hx; clear hx) | (go_at_call 56; refine (head_c _ _ hk hn _).mono ?_; rintro e w1 ⟨rfl, hx⟩; replace hm := hm.call hx; clear hx) | (go_at_call 53; refine (bit_c _ h63 _).mono ?_; rintro e w1 ⟨rfl, hx⟩; replace hm := hm.call hx; clear hx)); (try simp only [k4, k5, k6, Act.put, k1, k2, k3]))
  refine bodyPost_ret (results_row_tmp (h := rfl) _ _ _ _ _ _ _ rfl (hm.heap (i := 0) rfl) undLabel rfl (by first | exact sizeLabel | (simp only [rowOf_size]; exact sizeLabel))) rfl ?_
  exact ⟨by simp only [labV_eq]; rfl, hm.ext⟩
/-- The bits of the second child. -/
@[irreducible] def kid (b n : Nat) : Nat := b + 2 ^ (63 - n)
theorem kid_eq (b n : Nat) : kid b n = b + 2 ^ (63 - n) := by unfold kid; rfl
theorem child_one (n b : Nat) (hb : b < 2 ^ 64) (hl : isL (n : Int) b = true) (h63 : n < 64) (w : World) :
    Calls Try.prog 20 #[labV (n : Int) b, .int .i64 1] w fun e w' => e = .returned (.tuple #[labV ((n : Int) + 1) (kid b n), .int .i64 0]) ∧ Ext w w' := by
  have d2 : ((n : Int) == 64) = false := by rw [beq_eq_false_iff_ne]; omega
  have o1 : bits .or .u64 (b : Int) (2 ^ (63 - n)) = ((kid b n : Nat) : Int) := by
    have hp := pow64_lt (63 - n) (by omega)
    rw [show (2 : Int) ^ (63 - n) = ((2 ^ (63 - n) : Nat) : Int) from by norm_cast, u64_or_nat _ _ hb (by omega), or_bit _ _ (isL_mod n b hl) h63, kid_eq]
  have w1 : IntKind.i64.wrap ((n : Int) + 1) = (n : Int) + 1 := wrap_i64 (by omega) (by omega)
  go_enter Try.func20, Try.ntmps20
  have hm := Mem.refl w []
  go_wp2_with ((first | refine wpList_skip (by rfl) ?_ | (refine wlL (hm := hm) (hu := by first | exact undLabel) (hi := by (try simp only [rowOf_size]); first | exact sizeLabel) (h := ?_); (try simp only [Act.put, k1, k2, k3]); (try simp only [← labV_eq])) | refine wlLC (hm := hm) (hu := by first | exact undInt | exact undU64) (h := ?_) | (refine wlS (hm := hm) (hv := (by first | rfl | exact idV_eq _ | exact labV_eq _ _ | exact rectV_eq _ _ _ _)) (hi := by (try simp only [rowOf_size]); first | exact sizeLabel) (hs := by first | (simp only [rowOf_size]; done) | rfl) (h := ?_); clear hm; intro w1 hm; (try simp only [rowOf_set, k1, k2, k3, Value.cells, Act.eval, k7, k8, k9, kA, Option.getD_some] at hm)) | (refine wlSC (hm := hm) (hi := by first | exact sizeInt | exact sizeU64) (ho := by first | decide | (simp only [rowOf_size]; omega) | (simp; done)) (h := ?_); clear hm; intro w1 hm; (try simp only [rowOf_set, k1, k2, k3, Value.cells, Act.eval, k7, k8, k9, kA, Option.getD_some] at hm)) | (refine wlA (hz := by first | exact zeroLabel) (hm := hm) (h := ?_); clear hm; intro b1 w1 hm; (try simp only [rowOf_set, k1, k2, k3, Value.cells, Act.eval, k7, k8, k9, kA, Option.getD_some] at hm)) | (refine wl_box (by rfl) rfl (by first | exact idV_cells _ | exact labV_cells _ _ | exact rectV_cells _ _ _ _ | rfl) hm ?_; clear hm; intro b1 w1 hm) | (refine wl_build (by rfl) (built_zeroL) rfl ?_; (try simp only [Act.put, k1, k2, k3]); (try simp only [← labV_eq])) | (go_at_call 17; refine (is_true _ _ hb hl _).mono ?_; rintro e w1 ⟨rfl, hx⟩; replace hm := hm.call hx; clear hx) | (go_at_call 56; refine (head_c _ _ hk hn _).mono ?_; rintro e w1 ⟨rfl, hx⟩; replace hm := hm.call hx; clear hx) | (go_at_call 53; refine (bit_c _ h63 _).mono ?_; rintro e w1 ⟨rfl, hx⟩; replace hm := hm.call hx; clear hx)); (try simp only [k4, k5, k6, Act.put, k1, k2, k3]))
  go_wp2_with (with_reducible first | refine stAl ?_ | refine stBo ?_ | refine stLo ?_ | refine stSo ?_ | refine stBu ?_ | refine stBs ?_ | refine stMs ?_ | refine stAp ?_ | refine stCo ?_); refine wp_quiet_last 7 (by kernel_rfl) rfl (by kernel_rfl) (by kernel_rfl) hm ?_; simp only [List.take_succ_cons, List.take_zero, List.cons_append, List.nil_append, hush]
  repeat ((first | refine wq_skip (by rfl) ?_ | (refine wqL (hu := by first | exact undLabel) (hi := by (try simp only [rowOf_size]); first | exact sizeLabel) (h := ?_); (try simp only [Act.put, k1, k2, k3]); (try simp only [← labV_eq])) | refine wqLC (hu := by first | exact undInt | exact undU64) (h := ?_) | ((with_reducible show wpQuiet _ _ _ _ (⟨_, .call _, _, _, _, _⟩ :: _) _); refine wq_ask (by rfl) ?_; apply Exists.intro; refine ⟨?_, ?_⟩; (focus (intro w hC; go_simp; first | (go_at_call 17; exact (is_true _ _ hb hl _).mono fun e w' h => ⟨h.1, hC.call h.2⟩) | (go_at_call 56; exact (head_c _ _ hk hn _).mono fun e w' h => ⟨h.1, hC.call h.2⟩) | (go_at_call 53; exact (bit_c _ h63 _).mono fun e w' h => ⟨h.1, hC.call h.2⟩)))) | (refine wq_build (by rfl) (built_zeroL) rfl ?_; (try simp only [Act.put, k1, k2, k3]); (try simp only [← labV_eq])) | refine wqS (h := ?_)); (try simp only [k4, k5, k6, Act.put, k1, k2, k3]))
  refine wpQuiet_nil ?_; clear hm; intro w3 hm
  go_wp2_with ((first | refine wpList_skip (by rfl) ?_ | (refine wlL (hm := hm) (hu := by first | exact undLabel) (hi := by (try simp only [rowOf_size]); first | exact sizeLabel) (h := ?_); (try simp only [Act.put, k1, k2, k3]); (try simp only [← labV_eq])) | refine wlLC (hm := hm) (hu := by first | exact undInt | exact undU64) (h := ?_) | (refine wlS (hm := hm) (hv := (by first | rfl | exact idV_eq _ | exact labV_eq _ _ | exact rectV_eq _ _ _ _)) (hi := by (try simp only [rowOf_size]); first | exact sizeLabel) (hs := by first | (simp only [rowOf_size]; done) | rfl) (h := ?_); clear hm; intro w1 hm; (try simp only [rowOf_set, k1, k2, k3, Value.cells, Act.eval, k7, k8, k9, kA, Option.getD_some] at hm)) | (refine wlSC (hm := hm) (hi := by first | exact sizeInt | exact sizeU64) (ho := by first | decide | (simp only [rowOf_size]; omega) | (simp; done)) (h := ?_); clear hm; intro w1 hm; (try simp only [rowOf_set, k1, k2, k3, Value.cells, Act.eval, k7, k8, k9, kA, Option.getD_some] at hm)) | (refine wlA (hz := by first | exact zeroLabel) (hm := hm) (h := ?_); clear hm; intro b1 w1 hm; (try simp only [rowOf_set, k1, k2, k3, Value.cells, Act.eval, k7, k8, k9, kA, Option.getD_some] at hm)) | (refine wl_box (by rfl) rfl (by first | exact idV_cells _ | exact labV_cells _ _ | exact rectV_cells _ _ _ _ | rfl) hm ?_; clear hm; intro b1 w1 hm) | (refine wl_build (by rfl) (built_zeroL) rfl ?_; (try simp only [Act.put, k1, k2, k3]); (try simp only [← labV_eq])) | (go_at_call 17; refine (is_true _ _ hb hl _).mono ?_; rintro e w1 ⟨rfl, hx⟩; replace hm := hm.call hx; clear hx) | (go_at_call 56; refine (head_c _ _ hk hn _).mono ?_; rintro e w1 ⟨rfl, hx⟩; replace hm := hm.call hx; clear hx) | (go_at_call 53; refine (bit_c _ h63 _).mono ?_; rintro e w1 ⟨rfl, hx⟩; replace hm := hm.call hx; clear hx)); (try simp only [k4, k5, k6, Act.put, k1, k2, k3]))
  refine bodyPost_ret (results_row_tmp (h := rfl) _ _ _ _ _ _ _ rfl (hm.heap (i := 0) rfl) undLabel rfl (by first | exact sizeLabel | (simp only [rowOf_size]; exact sizeLabel))) rfl ?_
  exact ⟨by simp only [labV_eq]; rfl, hm.ext⟩
theorem child_zero (n b : Nat) (hb : b < 2 ^ 64) (hl : isL (n : Int) b = true) (h63 : n < 64) (w : World) :
    Calls Try.prog 20 #[labV (n : Int) b, .int .i64 0] w fun e w' => e = .returned (.tuple #[labV ((n : Int) + 1) b, .int .i64 0]) ∧ Ext w w' := by
  have d2 : ((n : Int) == 64) = false := by rw [beq_eq_false_iff_ne]; omega
  have w1 : IntKind.i64.wrap ((n : Int) + 1) = (n : Int) + 1 := wrap_i64 (by omega) (by omega)
  go_enter Try.func20, Try.ntmps20
  have hm := Mem.refl w []
  go_wp2_with ((first | refine wpList_skip (by rfl) ?_ | (refine wlL (hm := hm) (hu := by first | exact undLabel) (hi := by (try simp only [rowOf_size]); first | exact sizeLabel) (h := ?_); (try simp only [Act.put, k1, k2, k3]); (try simp only [← labV_eq])) | refine wlLC (hm := hm) (hu := by first | exact undInt | exact undU64) (h := ?_) | (refine wlS (hm := hm) (hv := (by first | rfl | exact idV_eq _ | exact labV_eq _ _ | exact rectV_eq _ _ _ _)) (hi := by (try simp only [rowOf_size]); first | exact sizeLabel) (hs := by first | (simp only [rowOf_size]; done) | rfl) (h := ?_); clear hm; intro w1 hm; (try simp only [rowOf_set, k1, k2, k3, Value.cells, Act.eval, k7, k8, k9, kA, Option.getD_some] at hm)) | (refine wlSC (hm := hm) (hi := by first | exact sizeInt | exact sizeU64) (ho := by first | decide | (simp only [rowOf_size]; omega) | (simp; done)) (h := ?_); clear hm; intro w1 hm; (try simp only [rowOf_set, k1, k2, k3, Value.cells, Act.eval, k7, k8, k9, kA, Option.getD_some] at hm)) | (refine wlA (hz := by first | exact zeroLabel) (hm := hm) (h := ?_); clear hm; intro b1 w1 hm; (try simp only [rowOf_set, k1, k2, k3, Value.cells, Act.eval, k7, k8, k9, kA, Option.getD_some] at hm)) | (refine wl_box (by rfl) rfl (by first | exact idV_cells _ | exact labV_cells _ _ | exact rectV_cells _ _ _ _ | rfl) hm ?_; clear hm; intro b1 w1 hm) | (refine wl_build (by rfl) (built_zeroL) rfl ?_; (try simp only [Act.put, k1, k2, k3]); (try simp only [← labV_eq])) | (go_at_call 17; refine (is_true _ _ hb hl _).mono ?_; rintro e w1 ⟨rfl, hx⟩; replace hm := hm.call hx; clear hx) | (go_at_call 56; refine (head_c _ _ hk hn _).mono ?_; rintro e w1 ⟨rfl, hx⟩; replace hm := hm.call hx; clear hx) | (go_at_call 53; refine (bit_c _ h63 _).mono ?_; rintro e w1 ⟨rfl, hx⟩; replace hm := hm.call hx; clear hx)); (try simp only [k4, k5, k6, Act.put, k1, k2, k3]))
  refine bodyPost_ret (results_row_tmp (h := rfl) _ _ _ _ _ _ _ rfl (hm.heap (i := 0) rfl) undLabel rfl (by first | exact sizeLabel | (simp only [rowOf_size]; exact sizeLabel))) rfl ?_
  exact ⟨by simp only [labV_eq]; rfl, hm.ext⟩
end Go.Proofs.Ytdlfgoiakkkilaa
