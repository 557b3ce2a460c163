/-
  The document's labels, continued: Span, Child.
-/
import Derived.Test.YtdlfgoiakkkilaaRefA
namespace Go.Proofs.Ytdlfgoiakkkilaa
open Go.RowKit
set_option linter.unusedSimpArgs false
set_option linter.unusedVariables false
set_option maxHeartbeats 1000000
set_option maxRecDepth 20000
attribute [local irreducible] wpQuiet wpList wpAnyH Calls

theorem refIs_of (len : Int) (b : Nat) (r : Bool) (hb : b < 2 ^ 64) (h : isL len b = r) : Says 32 #[labV len b] (.bool r) := fun w => by rw [← h]; exact refIs_c len b hb w
theorem top_mul (n b : Nat) (h : b % 2 ^ (64 - n) = 0) : b / 2 ^ (64 - n) * 2 ^ (64 - n) = b := Nat.div_mul_cancel (Nat.dvd_of_mod_eq_zero h)

theorem refSpan_true (n b : Nat) (hl : isL (n : Int) b = true) (hb : b < 2 ^ 64) (hn : n ≤ 64) (w : World) :
    Calls Try.prog 27 #[labV (n : Int) b] w fun e w' => e = .returned (.tuple #[.int .u64 (b : Int), .int .u64 ((hiL n b : Nat) : Int), .int .i64 0]) ∧ Ext w w' := by
  have hI := refIs_of _ b true hb hl
  have hB : Says 59 _ _ := refBitsL_c n b hb hn
  have hF : Says 64 _ _ := fill1_c n (b / 2 ^ (64 - n)) hn
  rw [top_mul n b (isL_mod n b hl)] at hF
  have hN : Says 63 _ _ := number_c (hiL n b) (hiL_lt n b hl hn hb)
  rw [show b + (2 ^ (64 - n) - 1) = hiL n b from rfl] at hF
  generalize txt n (b / 2 ^ (64 - n)) = s at *
  generalize txt 64 (hiL n b) = t at *
  generalize hiL n b = u at *
  clear hl hb hn
  go_enter Try.func27, Try.ntmps27
  have hm := Mem.refl w []
  go_wp2_with ((first | refine wpList_skip (by rfl) ?_ | (refine wlL (hm := hm) (hu := by first | exact undLabel) (hi := by (try simp only [rowOf_size]); first | exact sizeLabel) (h := ?_); (try simp only [Act.put, k1, k2, k3]); (try simp only [← labV_eq])) | refine wlLC (hm := hm) (hu := by first | exact undInt | exact undU64) (h := ?_) | (refine wlS (hm := hm) (hv := (by first | rfl | exact idV_eq _ | exact labV_eq _ _ | exact rectV_eq _ _ _ _)) (hi := by (try simp only [rowOf_size]); first | exact sizeLabel) (hs := by first | (simp only [rowOf_size]; done) | rfl) (h := ?_); clear hm; intro w1 hm; (try simp only [rowOf_set, k1, k2, k3, Value.cells, Act.eval, k7, k8, k9, kA, Option.getD_some] at hm)) | (refine wlSC (hm := hm) (hi := by first | exact sizeInt | exact sizeU64) (ho := by first | decide | (simp only [rowOf_size]; omega) | (simp; done)) (h := ?_); clear hm; intro w1 hm; (try simp only [rowOf_set, k1, k2, k3, Value.cells, Act.eval, k7, k8, k9, kA, Option.getD_some] at hm)) | (refine wlA (hz := by first | exact zeroLabel) (hm := hm) (h := ?_); clear hm; intro b1 w1 hm; (try simp only [rowOf_set, k1, k2, k3, Value.cells, Act.eval, k7, k8, k9, kA, Option.getD_some] at hm)) | (refine wl_box (by rfl) rfl (by first | exact idV_cells _ | exact labV_cells _ _ | exact rectV_cells _ _ _ _ | rfl) hm ?_; clear hm; intro b1 w1 hm) | (refine wl_build (by rfl) (built_zeroL) rfl ?_; (try simp only [Act.put, k1, k2, k3]); (try simp only [← labV_eq])) | (refine wl_build (by rfl) (built_lab _ _) rfl ?_; (try simp only [Act.put, k1, k2, k3]); (try simp only [← labV_eq])) | (go_at_call 32; refine (hI _).mono ?_; rintro e w1 ⟨rfl, hx⟩; replace hm := hm.call hx; clear hx) | (go_at_call 59; refine (hB _).mono ?_; rintro e w1 ⟨rfl, hx⟩; replace hm := hm.call hx; clear hx) | (go_at_call 64; refine (hF _).mono ?_; rintro e w1 ⟨rfl, hx⟩; replace hm := hm.call hx; clear hx) | (go_at_call 63; refine (hN _).mono ?_; rintro e w1 ⟨rfl, hx⟩; replace hm := hm.call hx; clear hx)); (try simp only [k4, k5, k6, Act.put, k1, k2, k3]))
  go_wp2_with (with_reducible first | refine stAl ?_ | refine stBo ?_ | refine stLo ?_ | refine stSo ?_ | refine stBu ?_ | refine stBs ?_ | refine stMs ?_ | refine stAp ?_ | refine stCo ?_); refine wp_quiet_mem (by kernel_rfl) (by kernel_rfl) hm ?_
  repeat ((first | refine wq_skip (by rfl) ?_ | (refine wqL (hu := by first | exact undLabel) (hi := by (try simp only [rowOf_size]); first | exact sizeLabel) (h := ?_); (try simp only [Act.put, k1, k2, k3]); (try simp only [← labV_eq])) | refine wqLC (hu := by first | exact undInt | exact undU64) (h := ?_) | ((with_reducible show wpQuiet _ _ _ _ (⟨_, .call _, _, _, _, _⟩ :: _) _); refine wq_ask (by rfl) ?_; apply Exists.intro; refine ⟨?_, ?_⟩; (focus (intro w hC; go_simp; first | (go_at_call 32; exact (hI _).mono fun e w' h => ⟨h.1, hC.call h.2⟩) | (go_at_call 59; exact (hB _).mono fun e w' h => ⟨h.1, hC.call h.2⟩) | (go_at_call 64; exact (hF _).mono fun e w' h => ⟨h.1, hC.call h.2⟩) | (go_at_call 63; exact (hN _).mono fun e w' h => ⟨h.1, hC.call h.2⟩)))) | (refine wq_build (by rfl) (built_zeroL) rfl ?_; (try simp only [Act.put, k1, k2, k3]); (try simp only [← labV_eq])) | (refine wq_build (by rfl) (built_lab _ _) rfl ?_; (try simp only [Act.put, k1, k2, k3]); (try simp only [← labV_eq])) | refine wqS (h := ?_)); (try simp only [k4, k5, k6, Act.put, k1, k2, k3]))
  refine wpQuiet_nil ?_; clear hm; intro w2 hm
  go_wp2_with ((first | refine wpList_skip (by rfl) ?_ | (refine wlL (hm := hm) (hu := by first | exact undLabel) (hi := by (try simp only [rowOf_size]); first | exact sizeLabel) (h := ?_); (try simp only [Act.put, k1, k2, k3]); (try simp only [← labV_eq])) | refine wlLC (hm := hm) (hu := by first | exact undInt | exact undU64) (h := ?_) | (refine wlS (hm := hm) (hv := (by first | rfl | exact idV_eq _ | exact labV_eq _ _ | exact rectV_eq _ _ _ _)) (hi := by (try simp only [rowOf_size]); first | exact sizeLabel) (hs := by first | (simp only [rowOf_size]; done) | rfl) (h := ?_); clear hm; intro w1 hm; (try simp only [rowOf_set, k1, k2, k3, Value.cells, Act.eval, k7, k8, k9, kA, Option.getD_some] at hm)) | (refine wlSC (hm := hm) (hi := by first | exact sizeInt | exact sizeU64) (ho := by first | decide | (simp only [rowOf_size]; omega) | (simp; done)) (h := ?_); clear hm; intro w1 hm; (try simp only [rowOf_set, k1, k2, k3, Value.cells, Act.eval, k7, k8, k9, kA, Option.getD_some] at hm)) | (refine wlA (hz := by first | exact zeroLabel) (hm := hm) (h := ?_); clear hm; intro b1 w1 hm; (try simp only [rowOf_set, k1, k2, k3, Value.cells, Act.eval, k7, k8, k9, kA, Option.getD_some] at hm)) | (refine wl_box (by rfl) rfl (by first | exact idV_cells _ | exact labV_cells _ _ | exact rectV_cells _ _ _ _ | rfl) hm ?_; clear hm; intro b1 w1 hm) | (refine wl_build (by rfl) (built_zeroL) rfl ?_; (try simp only [Act.put, k1, k2, k3]); (try simp only [← labV_eq])) | (refine wl_build (by rfl) (built_lab _ _) rfl ?_; (try simp only [Act.put, k1, k2, k3]); (try simp only [← labV_eq])) | (go_at_call 32; refine (hI _).mono ?_; rintro e w1 ⟨rfl, hx⟩; replace hm := hm.call hx; clear hx) | (go_at_call 59; refine (hB _).mono ?_; rintro e w1 ⟨rfl, hx⟩; replace hm := hm.call hx; clear hx) | (go_at_call 64; refine (hF _).mono ?_; rintro e w1 ⟨rfl, hx⟩; replace hm := hm.call hx; clear hx) | (go_at_call 63; refine (hN _).mono ?_; rintro e w1 ⟨rfl, hx⟩; replace hm := hm.call hx; clear hx)); (try simp only [k4, k5, k6, Act.put, k1, k2, k3]))
  go_ret3
  exact ⟨rfl, hm.ext⟩
theorem refSpan_false (len : Int) (b : Nat) (hl : isL len b = false) (hb : b < 2 ^ 64) (w : World) :
    Calls Try.prog 27 #[labV len b] w fun e w' => e = .returned (.tuple #[.int .u64 0, .int .u64 0, .int .i64 1]) ∧ Ext w w' := by
  have hI := refIs_of _ b false hb hl
  go_enter Try.func27, Try.ntmps27
  have hm := Mem.refl w []
  go_wp2_with ((first | refine wpList_skip (by rfl) ?_ | (refine wlL (hm := hm) (hu := by first | exact undLabel) (hi := by (try simp only [rowOf_size]); first | exact sizeLabel) (h := ?_); (try simp only [Act.put, k1, k2, k3]); (try simp only [← labV_eq])) | refine wlLC (hm := hm) (hu := by first | exact undInt | exact undU64) (h := ?_) | (refine wlS (hm := hm) (hv := (by first | rfl | exact idV_eq _ | exact labV_eq _ _ | exact rectV_eq _ _ _ _)) (hi := by (try simp only [rowOf_size]); first | exact sizeLabel) (hs := by first | (simp only [rowOf_size]; done) | rfl) (h := ?_); clear hm; intro w1 hm; (try simp only [rowOf_set, k1, k2, k3, Value.cells, Act.eval, k7, k8, k9, kA, Option.getD_some] at hm)) | (refine wlSC (hm := hm) (hi := by first | exact sizeInt | exact sizeU64) (ho := by first | decide | (simp only [rowOf_size]; omega) | (simp; done)) (h := ?_); clear hm; intro w1 hm; (try simp only [rowOf_set, k1, k2, k3, Value.cells, Act.eval, k7, k8, k9, kA, Option.getD_some] at hm)) | (refine wlA (hz := by first | exact zeroLabel) (hm := hm) (h := ?_); clear hm; intro b1 w1 hm; (try simp only [rowOf_set, k1, k2, k3, Value.cells, Act.eval, k7, k8, k9, kA, Option.getD_some] at hm)) | (refine wl_box (by rfl) rfl (by first | exact idV_cells _ | exact labV_cells _ _ | exact rectV_cells _ _ _ _ | rfl) hm ?_; clear hm; intro b1 w1 hm) | (refine wl_build (by rfl) (built_zeroL) rfl ?_; (try simp only [Act.put, k1, k2, k3]); (try simp only [← labV_eq])) | (refine wl_build (by rfl) (built_lab _ _) rfl ?_; (try simp only [Act.put, k1, k2, k3]); (try simp only [← labV_eq])) | (go_at_call 32; refine (hI _).mono ?_; rintro e w1 ⟨rfl, hx⟩; replace hm := hm.call hx; clear hx)); (try simp only [k4, k5, k6, Act.put, k1, k2, k3]))
  go_ret3
  exact ⟨rfl, hm.ext⟩

theorem refChild_arg (len : Int) (b : Nat) (c : Int) (hb : b < 2 ^ 64) (h : isL len b = false ∨ c < 0 ∨ 1 < c) (w : World) :
    Calls Try.prog 21 #[labV len b, .int .i64 c] w fun e w' => e = .returned (.tuple #[labV 0 0, .int .i64 1]) ∧ Ext w w' := by
  cases hl : isL len b with
  | false =>
    have hI := refIs_of _ b false hb hl
    clear h
    go_enter Try.func21, Try.ntmps21
    have hm := Mem.refl w []
    go_wp2_with ((first | refine wpList_skip (by rfl) ?_ | (refine wlL (hm := hm) (hu := by first | exact undLabel) (hi := by (try simp only [rowOf_size]); first | exact sizeLabel) (h := ?_); (try simp only [Act.put, k1, k2, k3]); (try simp only [← labV_eq])) | refine wlLC (hm := hm) (hu := by first | exact undInt | exact undU64) (h := ?_) | (refine wlS (hm := hm) (hv := (by first | rfl | exact idV_eq _ | exact labV_eq _ _ | exact rectV_eq _ _ _ _)) (hi := by (try simp only [rowOf_size]); first | exact sizeLabel) (hs := by first | (simp only [rowOf_size]; done) | rfl) (h := ?_); clear hm; intro w1 hm; (try simp only [rowOf_set, k1, k2, k3, Value.cells, Act.eval, k7, k8, k9, kA, Option.getD_some] at hm)) | (refine wlSC (hm := hm) (hi := by first | exact sizeInt | exact sizeU64) (ho := by first | decide | (simp only [rowOf_size]; omega) | (simp; done)) (h := ?_); clear hm; intro w1 hm; (try simp only [rowOf_set, k1, k2, k3, Value.cells, Act.eval, k7, k8, k9, kA, Option.getD_some] at hm)) | (refine wlA (hz := by first | exact zeroLabel) (hm := hm) (h := ?_); clear hm; intro b1 w1 hm; (try simp only [rowOf_set, k1, k2, k3, Value.cells, Act.eval, k7, k8, k9, kA, Option.getD_some] at hm)) | (refine wl_box (by rfl) rfl (by first | exact idV_cells _ | exact labV_cells _ _ | exact rectV_cells _ _ _ _ | rfl) hm ?_; clear hm; intro b1 w1 hm) | (refine wl_build (by rfl) (built_zeroL) rfl ?_; (try simp only [Act.put, k1, k2, k3]); (try simp only [← labV_eq])) | (refine wl_build (by rfl) (built_lab _ _) rfl ?_; (try simp only [Act.put, k1, k2, k3]); (try simp only [← labV_eq])) | (go_at_call 32; refine (hI _).mono ?_; rintro e w1 ⟨rfl, hx⟩; replace hm := hm.call hx; clear hx)); (try simp only [k4, k5, k6, Act.put, k1, k2, k3]))
    refine bodyPost_ret (results_row_tmp (h := rfl) _ _ _ _ _ _ _ rfl (hm.heap (i := 0) rfl) undLabel rfl (by first | exact sizeLabel | (simp only [rowOf_size]; exact sizeLabel))) rfl ?_
    exact ⟨by simp only [labV_eq]; try rfl, hm.ext⟩
  | true =>
    have hI := refIs_of _ b true hb hl
    rw [hl] at h
    by_cases h0 : c < 0
    · have d0 : decide (c < 0) = true := decide_eq_true h0
      clear h
      go_enter Try.func21, Try.ntmps21
      have hm := Mem.refl w []
      go_wp2_with ((first | refine wpList_skip (by rfl) ?_ | (refine wlL (hm := hm) (hu := by first | exact undLabel) (hi := by (try simp only [rowOf_size]); first | exact sizeLabel) (h := ?_); (try simp only [Act.put, k1, k2, k3]); (try simp only [← labV_eq])) | refine wlLC (hm := hm) (hu := by first | exact undInt | exact undU64) (h := ?_) | (refine wlS (hm := hm) (hv := (by first | rfl | exact idV_eq _ | exact labV_eq _ _ | exact rectV_eq _ _ _ _)) (hi := by (try simp only [rowOf_size]); first | exact sizeLabel) (hs := by first | (simp only [rowOf_size]; done) | rfl) (h := ?_); clear hm; intro w1 hm; (try simp only [rowOf_set, k1, k2, k3, Value.cells, Act.eval, k7, k8, k9, kA, Option.getD_some] at hm)) | (refine wlSC (hm := hm) (hi := by first | exact sizeInt | exact sizeU64) (ho := by first | decide | (simp only [rowOf_size]; omega) | (simp; done)) (h := ?_); clear hm; intro w1 hm; (try simp only [rowOf_set, k1, k2, k3, Value.cells, Act.eval, k7, k8, k9, kA, Option.getD_some] at hm)) | (refine wlA (hz := by first | exact zeroLabel) (hm := hm) (h := ?_); clear hm; intro b1 w1 hm; (try simp only [rowOf_set, k1, k2, k3, Value.cells, Act.eval, k7, k8, k9, kA, Option.getD_some] at hm)) | (refine wl_box (by rfl) rfl (by first | exact idV_cells _ | exact labV_cells _ _ | exact rectV_cells _ _ _ _ | rfl) hm ?_; clear hm; intro b1 w1 hm) | (refine wl_build (by rfl) (built_zeroL) rfl ?_; (try simp only [Act.put, k1, k2, k3]); (try simp only [← labV_eq])) | (refine wl_build (by rfl) (built_lab _ _) rfl ?_; (try simp only [Act.put, k1, k2, k3]); (try simp only [← labV_eq])) | (go_at_call 32; refine (hI _).mono ?_; rintro e w1 ⟨rfl, hx⟩; replace hm := hm.call hx; clear hx)); (try simp only [k4, k5, k6, Act.put, k1, k2, k3]))
      refine bodyPost_ret (results_row_tmp (h := rfl) _ _ _ _ _ _ _ rfl (hm.heap (i := 0) rfl) undLabel rfl (by first | exact sizeLabel | (simp only [rowOf_size]; exact sizeLabel))) rfl ?_
      exact ⟨by simp only [labV_eq]; try rfl, hm.ext⟩
    · have d0 : decide (c < 0) = false := decide_eq_false h0
      have d1 : decide (1 < c) = true := decide_eq_true (by rcases h with h | h | h; cases h; omega; omega)
      clear h
      go_enter Try.func21, Try.ntmps21
      have hm := Mem.refl w []
      go_wp2_with ((first | refine wpList_skip (by rfl) ?_ | (refine wlL (hm := hm) (hu := by first | exact undLabel) (hi := by (try simp only [rowOf_size]); first | exact sizeLabel) (h := ?_); (try simp only [Act.put, k1, k2, k3]); (try simp only [← labV_eq])) | refine wlLC (hm := hm) (hu := by first | exact undInt | exact undU64) (h := ?_) | (refine wlS (hm := hm) (hv := (by first | rfl | exact idV_eq _ | exact labV_eq _ _ | exact rectV_eq _ _ _ _)) (hi := by (try simp only [rowOf_size]); first | exact sizeLabel) (hs := by first | (simp only [rowOf_size]; done) | rfl) (h := ?_); clear hm; intro w1 hm; (try simp only [rowOf_set, k1, k2, k3, Value.cells, Act.eval, k7, k8, k9, kA, Option.getD_some] at hm)) | (refine wlSC (hm := hm) (hi := by first | exact sizeInt | exact sizeU64) (ho := by first | decide | (simp only [rowOf_size]; omega) | (simp; done)) (h := ?_); clear hm; intro w1 hm; (try simp only [rowOf_set, k1, k2, k3, Value.cells, Act.eval, k7, k8, k9, kA, Option.getD_some] at hm)) | (refine wlA (hz := by first | exact zeroLabel) (hm := hm) (h := ?_); clear hm; intro b1 w1 hm; (try simp only [rowOf_set, k1, k2, k3, Value.cells, Act.eval, k7, k8, k9, kA, Option.getD_some] at hm)) | (refine wl_box (by rfl) rfl (by first | exact idV_cells _ | exact labV_cells _ _ | exact rectV_cells _ _ _ _ | rfl) hm ?_; clear hm; intro b1 w1 hm) | (refine wl_build (by rfl) (built_zeroL) rfl ?_; (try simp only [Act.put, k1, k2, k3]); (try simp only [← labV_eq])) | (refine wl_build (by rfl) (built_lab _ _) rfl ?_; (try simp only [Act.put, k1, k2, k3]); (try simp only [← labV_eq])) | (go_at_call 32; refine (hI _).mono ?_; rintro e w1 ⟨rfl, hx⟩; replace hm := hm.call hx; clear hx)); (try simp only [k4, k5, k6, Act.put, k1, k2, k3]))
      refine bodyPost_ret (results_row_tmp (h := rfl) _ _ _ _ _ _ _ rfl (hm.heap (i := 0) rfl) undLabel rfl (by first | exact sizeLabel | (simp only [rowOf_size]; exact sizeLabel))) rfl ?_
      exact ⟨by simp only [labV_eq]; try rfl, hm.ext⟩
theorem refChild_range (b : Nat) (c : Int) (hb : b < 2 ^ 64) (hl : isL 64 b = true) (h0 : 0 ≤ c) (h1 : c ≤ 1) (w : World) :
    Calls Try.prog 21 #[labV 64 b, .int .i64 c] w fun e w' => e = .returned (.tuple #[labV 0 0, .int .i64 5]) ∧ Ext w w' := by
  have d0 : decide (c < 0) = false := decide_eq_false (by omega)
  have d1 : decide (1 < c) = false := decide_eq_false (by omega)
  have hI := refIs_of _ b true hb hl
  go_enter Try.func21, Try.ntmps21
  have hm := Mem.refl w []
  go_wp2_with ((first | refine wpList_skip (by rfl) ?_ | (refine wlL (hm := hm) (hu := by first | exact undLabel) (hi := by (try simp only [rowOf_size]); first | exact sizeLabel) (h := ?_); (try simp only [Act.put, k1, k2, k3]); (try simp only [← labV_eq])) | refine wlLC (hm := hm) (hu := by first | exact undInt | exact undU64) (h := ?_) | (refine wlS (hm := hm) (hv := (by first | rfl | exact idV_eq _ | exact labV_eq _ _ | exact rectV_eq _ _ _ _)) (hi := by (try simp only [rowOf_size]); first | exact sizeLabel) (hs := by first | (simp only [rowOf_size]; done) | rfl) (h := ?_); clear hm; intro w1 hm; (try simp only [rowOf_set, k1, k2, k3, Value.cells, Act.eval, k7, k8, k9, kA, Option.getD_some] at hm)) | (refine wlSC (hm := hm) (hi := by first | exact sizeInt | exact sizeU64) (ho := by first | decide | (simp only [rowOf_size]; omega) | (simp; done)) (h := ?_); clear hm; intro w1 hm; (try simp only [rowOf_set, k1, k2, k3, Value.cells, Act.eval, k7, k8, k9, kA, Option.getD_some] at hm)) | (refine wlA (hz := by first | exact zeroLabel) (hm := hm) (h := ?_); clear hm; intro b1 w1 hm; (try simp only [rowOf_set, k1, k2, k3, Value.cells, Act.eval, k7, k8, k9, kA, Option.getD_some] at hm)) | (refine wl_box (by rfl) rfl (by first | exact idV_cells _ | exact labV_cells _ _ | exact rectV_cells _ _ _ _ | rfl) hm ?_; clear hm; intro b1 w1 hm) | (refine wl_build (by rfl) (built_zeroL) rfl ?_; (try simp only [Act.put, k1, k2, k3]); (try simp only [← labV_eq])) | (refine wl_build (by rfl) (built_lab _ _) rfl ?_; (try simp only [Act.put, k1, k2, k3]); (try simp only [← labV_eq])) | (go_at_call 32; refine (hI _).mono ?_; rintro e w1 ⟨rfl, hx⟩; replace hm := hm.call hx; clear hx)); (try simp only [k4, k5, k6, Act.put, k1, k2, k3]))
  refine bodyPost_ret (results_row_tmp (h := rfl) _ _ _ _ _ _ _ rfl (hm.heap (i := 0) rfl) undLabel rfl (by first | exact sizeLabel | (simp only [rowOf_size]; exact sizeLabel))) rfl ?_
  exact ⟨by simp only [labV_eq]; try rfl, hm.ext⟩
theorem kid_top (n b x : Nat) (hn : n < 64) (hm : b % 2 ^ (64 - n) = 0) : (2 * (b / 2 ^ (64 - n)) + x) * 2 ^ (64 - (n + 1)) = b + x * 2 ^ (63 - n) := by
  have h := top_mul n b hm
  rw [show 64 - (n + 1) = 63 - n from by omega, Nat.add_mul]
  rw [show 64 - n = 63 - n + 1 from by omega] at *
  generalize b / 2 ^ (63 - n + 1) = q at *
  rw [Nat.pow_succ] at h
  rw [← h, Nat.mul_comm 2 q, Nat.mul_assoc q 2, Nat.mul_comm 2]
theorem snoc_lt (q x n : Nat) (hq : q < 2 ^ n) (hx : x < 2) : 2 * q + x < 2 ^ (n + 1) := by rw [Nat.pow_succ]; omega
theorem cat_ok (s t : ByteArray) (n m : Nat) (hs : s.size = n) (ht : t.size = m) (h : n + m ≤ 9223372036854775807) : ¬ 9223372036854775807 < s.size + t.size := by omega

theorem refChild_one (n b : Nat) (hb : b < 2 ^ 64) (hl : isL (n : Int) b = true) (h63 : n < 64) (w : World) :
    Calls Try.prog 21 #[labV (n : Int) b, .int .i64 1] w fun e w' => e = .returned (.tuple #[labV ((n : Int) + 1) (kid b n), .int .i64 0]) ∧ Ext w w' := by
  have hmod := isL_mod n b hl
  have d2 : ((n : Int) == 64) = false := by rw [beq_eq_false_iff_ne]; omega
  have hI := refIs_of _ b true hb hl
  have hB : Says 59 _ _ := refBitsL_c n b hb (by omega)
  have hq := top_lt n b (by omega) hb
  have hO : Says 58 _ _ := of_c (n + 1) (2 * (b / 2 ^ (64 - n)) + 1) (by omega) (snoc_lt _ _ _ hq (by omega))
  rw [kid_top n b 1 h63 hmod, Nat.one_mul, ← kid_eq, ← txt_snoc _ _ _ (by omega), ← chr_eq 1 (by omega), show (((n + 1 : Nat)) : Int) = (n : Int) + 1 from by omega] at hO
  have hz : ¬ 9223372036854775807 < (txt n (b / 2 ^ (64 - n))).size + 1 := by rw [txt_size]; omega
  simp only [Nat.one_ne_zero, if_false] at hO
  generalize txt n (b / 2 ^ (64 - n)) = s at *
  clear hq hmod
  go_enter Try.func21, Try.ntmps21
  have hm := Mem.refl w []
  go_wp2_with ((first | refine wpList_skip (by rfl) ?_ | (refine wlL (hm := hm) (hu := by first | exact undLabel) (hi := by (try simp only [rowOf_size]); first | exact sizeLabel) (h := ?_); (try simp only [Act.put, k1, k2, k3]); (try simp only [← labV_eq])) | refine wlLC (hm := hm) (hu := by first | exact undInt | exact undU64) (h := ?_) | (refine wlS (hm := hm) (hv := (by first | rfl | exact idV_eq _ | exact labV_eq _ _ | exact rectV_eq _ _ _ _)) (hi := by (try simp only [rowOf_size]); first | exact sizeLabel) (hs := by first | (simp only [rowOf_size]; done) | rfl) (h := ?_); clear hm; intro w1 hm; (try simp only [rowOf_set, k1, k2, k3, Value.cells, Act.eval, k7, k8, k9, kA, Option.getD_some] at hm)) | (refine wlSC (hm := hm) (hi := by first | exact sizeInt | exact sizeU64) (ho := by first | decide | (simp only [rowOf_size]; omega) | (simp; done)) (h := ?_); clear hm; intro w1 hm; (try simp only [rowOf_set, k1, k2, k3, Value.cells, Act.eval, k7, k8, k9, kA, Option.getD_some] at hm)) | (refine wlA (hz := by first | exact zeroLabel) (hm := hm) (h := ?_); clear hm; intro b1 w1 hm; (try simp only [rowOf_set, k1, k2, k3, Value.cells, Act.eval, k7, k8, k9, kA, Option.getD_some] at hm)) | (refine wl_box (by rfl) rfl (by first | exact idV_cells _ | exact labV_cells _ _ | exact rectV_cells _ _ _ _ | rfl) hm ?_; clear hm; intro b1 w1 hm) | (refine wl_build (by rfl) (built_zeroL) rfl ?_; (try simp only [Act.put, k1, k2, k3]); (try simp only [← labV_eq])) | (refine wl_build (by rfl) (built_lab _ _) rfl ?_; (try simp only [Act.put, k1, k2, k3]); (try simp only [← labV_eq])) | (go_at_call 32; refine (hI _).mono ?_; rintro e w1 ⟨rfl, hx⟩; replace hm := hm.call hx; clear hx) | (go_at_call 59; refine (hB _).mono ?_; rintro e w1 ⟨rfl, hx⟩; replace hm := hm.call hx; clear hx) | (go_at_call 58; refine (hO _).mono ?_; rintro e w1 ⟨rfl, hx⟩; replace hm := hm.call hx; clear hx)); (try simp only [k4, k5, k6, Act.put, k1, k2, k3]))
  refine bodyPost_ret (results_row_tmp (h := rfl) _ _ _ _ _ _ _ rfl (hm.heap (i := 0) rfl) undLabel rfl (by first | exact sizeLabel | (simp only [rowOf_size]; exact sizeLabel))) rfl ?_
  exact ⟨by simp only [labV_eq]; try rfl, hm.ext⟩
theorem refChild_zero (n b : Nat) (hb : b < 2 ^ 64) (hl : isL (n : Int) b = true) (h63 : n < 64) (w : World) :
    Calls Try.prog 21 #[labV (n : Int) b, .int .i64 0] w fun e w' => e = .returned (.tuple #[labV ((n : Int) + 1) b, .int .i64 0]) ∧ Ext w w' := by
  have hmod := isL_mod n b hl
  have d2 : ((n : Int) == 64) = false := by rw [beq_eq_false_iff_ne]; omega
  have hI := refIs_of _ b true hb hl
  have hB : Says 59 _ _ := refBitsL_c n b hb (by omega)
  have hq := top_lt n b (by omega) hb
  have hO : Says 58 _ _ := of_c (n + 1) (2 * (b / 2 ^ (64 - n)) + 0) (by omega) (snoc_lt _ _ _ hq (by omega))
  rw [kid_top n b 0 h63 hmod, Nat.zero_mul, Nat.add_zero, ← txt_snoc _ _ _ (by omega), ← chr_eq 0 (by omega), show (((n + 1 : Nat)) : Int) = (n : Int) + 1 from by omega] at hO
  have hz : ¬ 9223372036854775807 < (txt n (b / 2 ^ (64 - n))).size + 1 := by rw [txt_size]; omega
  simp only [if_true] at hO
  generalize txt n (b / 2 ^ (64 - n)) = s at *
  clear hq hmod
  go_enter Try.func21, Try.ntmps21
  have hm := Mem.refl w []
  go_wp2_with ((first | refine wpList_skip (by rfl) ?_ | (refine wlL (hm := hm) (hu := by first | exact undLabel) (hi := by (try simp only [rowOf_size]); first | exact sizeLabel) (h := ?_); (try simp only [Act.put, k1, k2, k3]); (try simp only [← labV_eq])) | refine wlLC (hm := hm) (hu := by first | exact undInt | exact undU64) (h := ?_) | (refine wlS (hm := hm) (hv := (by first | rfl | exact idV_eq _ | exact labV_eq _ _ | exact rectV_eq _ _ _ _)) (hi := by (try simp only [rowOf_size]); first | exact sizeLabel) (hs := by first | (simp only [rowOf_size]; done) | rfl) (h := ?_); clear hm; intro w1 hm; (try simp only [rowOf_set, k1, k2, k3, Value.cells, Act.eval, k7, k8, k9, kA, Option.getD_some] at hm)) | (refine wlSC (hm := hm) (hi := by first | exact sizeInt | exact sizeU64) (ho := by first | decide | (simp only [rowOf_size]; omega) | (simp; done)) (h := ?_); clear hm; intro w1 hm; (try simp only [rowOf_set, k1, k2, k3, Value.cells, Act.eval, k7, k8, k9, kA, Option.getD_some] at hm)) | (refine wlA (hz := by first | exact zeroLabel) (hm := hm) (h := ?_); clear hm; intro b1 w1 hm; (try simp only [rowOf_set, k1, k2, k3, Value.cells, Act.eval, k7, k8, k9, kA, Option.getD_some] at hm)) | (refine wl_box (by rfl) rfl (by first | exact idV_cells _ | exact labV_cells _ _ | exact rectV_cells _ _ _ _ | rfl) hm ?_; clear hm; intro b1 w1 hm) | (refine wl_build (by rfl) (built_zeroL) rfl ?_; (try simp only [Act.put, k1, k2, k3]); (try simp only [← labV_eq])) | (refine wl_build (by rfl) (built_lab _ _) rfl ?_; (try simp only [Act.put, k1, k2, k3]); (try simp only [← labV_eq])) | (go_at_call 32; refine (hI _).mono ?_; rintro e w1 ⟨rfl, hx⟩; replace hm := hm.call hx; clear hx) | (go_at_call 59; refine (hB _).mono ?_; rintro e w1 ⟨rfl, hx⟩; replace hm := hm.call hx; clear hx) | (go_at_call 58; refine (hO _).mono ?_; rintro e w1 ⟨rfl, hx⟩; replace hm := hm.call hx; clear hx)); (try simp only [k4, k5, k6, Act.put, k1, k2, k3]))
  refine bodyPost_ret (results_row_tmp (h := rfl) _ _ _ _ _ _ _ rfl (hm.heap (i := 0) rfl) undLabel rfl (by first | exact sizeLabel | (simp only [rowOf_size]; exact sizeLabel))) rfl ?_
  exact ⟨by simp only [labV_eq]; try rfl, hm.ext⟩
end Go.Proofs.Ytdlfgoiakkkilaa
