/-
  Wire: a label that is read.
-/
import Derived.Test.YtijkmbebfodhdaaWirH
namespace Go.Proofs.Ytijkmbebfodhdaa
open Go.RowKit
set_option linter.unusedSimpArgs false
set_option linter.unusedVariables false
set_option maxHeartbeats 1000000
set_option maxRecDepth 20000
attribute [local irreducible] wpQuiet wpList wpAnyH Calls

theorem built_lab1 (x : Int) : Try.prog.built 26 [(0, .int .i64 x)] = some #[.int .i64 x, .int .u64 0] := by kernel_rfl
theorem label_err1 (b : Nat) (s r x : ByteArray) (h1 : Takes 84 #[.pointer (some ⟨b, 0, none⟩), .int .i64 1] b s (.tuple #[.string x, .int .i64 4]) r) :
    Takes 53 #[.pointer (some ⟨b, 0, none⟩)] b s (.tuple #[labV 0 0, .int .i64 4]) r := by
  intro w hw
  rw [labV_eq 0 0]
  go_enter Try.func53, Try.ntmps53
  have hm := Mem.start hw
  go_wp2_with ((first | refine wpList_skip (by rfl) ?_ | (refine wlL (hm := hm) (hu := by first | exact undID | exact undLabel) (hi := by (try simp only [rowOf_size, idC_size]); first | exact sizeID | exact sizeLabel) (h := ?_); (try simp only [Act.put, k1, k2, k3]); (try simp only [← labV_eq, ← idV_eq])) | refine wlLC (hm := hm) (hu := by first | exact undStr | exact undByteI | exact undInt | exact undU64) (h := ?_) | (refine wlS (hm := hm) (hv := (by first | rfl | exact idV_eq _ | exact labV_eq _ _ | exact rectV_eq _ _ _ _)) (hi := by (try simp only [rowOf_size, idC_size]); first | exact sizeID | exact sizeLabel) (hs := by first | (simp only [rowOf_size, idC_size]; done) | rfl) (h1 := by first | rfl | exact idC_one _ | exact rowOf_one _ _ (fun _ _ => rfl) | (simp only [List.size_toArray, List.length_cons, List.all_toArray', List.all_cons, List.all_nil, Value.oneCell', Bool.and_true, Bool.and_self]; done) | (simp [Value.oneCell']; done)) (h := ?_); clear hm; intro w1 hm; (try simp only [rowOf_set, k1, k2, k3, Value.cells, Act.eval, k7, k8, k9, kA, Option.getD_some] at hm)) | (refine wlSC (hm := hm) (hi := by first | exact sizeStr | exact sizeByteI | exact sizeInt | exact sizeU64) (ho := by first | decide | (simp only [rowOf_size, idC_size]; omega) | (simp; done)) (h := ?_); clear hm; intro w1 hm; (try simp only [rowOf_set, k1, k2, k3, Value.cells, Act.eval, k7, k8, k9, kA, Option.getD_some] at hm)) | (refine wlA (hz := by first | exact zeroID | exact zeroLabel) (hm := hm) (h := ?_); clear hm; intro b1 w1 hm; (try simp only [rowOf_set, k1, k2, k3, Value.cells, Act.eval, k7, k8, k9, kA, Option.getD_some] at hm)) | (refine wl_box (by rfl) rfl (by first | exact idV_cells _ | exact labV_cells _ _ | exact rectV_cells _ _ _ _ | rfl) hm ?_; clear hm; intro b1 w1 hm) | (refine wl_build (by rfl) (built_zeroL) rfl ?_; (try simp only [Act.put, k1, k2, k3]); (try simp only [← labV_eq, ← idV_eq])) | (refine wl_build (by rfl) (built_lab1 _) rfl ?_; (try simp only [Act.put, k1, k2, k3]); (try simp only [← labV_eq, ← idV_eq])) | (go_at_call 84; refine (h1 _ (hm.heap (by with_reducible first | exact at0 | exact at1 | exact at2 | exact at3 | exact at4))).mono ?_; rintro e w1 ⟨rfl, hx⟩; replace hm := hm.callAt (by with_reducible first | exact at0 | exact at1 | exact at2 | exact at3 | exact at4) hx; clear hx; simp only [k2, k3] at hm) | (with_reducible first | refine stBs ?_ | refine stMs ?_ | refine stAp ?_ | refine stCo ?_)); (try simp only [k4, k5, k6, Act.put, k1, k2, k3]))
  refine bodyPost_ret (results_row_tmp (h := rfl) _ _ _ _ _ _ _ rfl (hm.heap (i := 0) rfl) undLabel rfl (by first | exact sizeLabel | (simp only [rowOf_size, idC_size]; exact sizeLabel))) rfl ?_
  exact ⟨rfl, hm.tail⟩
theorem label_form1 (b : Nat) (s r t0 : ByteArray) (n : Nat) (hn : 64 < n) (hn2 : n < 256) (hI0 : ∀ w, (Instr.index 9 (.string t0) (.int .i64 0)).run Try.prog w = .ok (.int .u8 (n : Int)) w)
    (h1 : Takes 84 #[.pointer (some ⟨b, 0, none⟩), .int .i64 1] b s (.tuple #[.string t0, .int .i64 0]) r) :
    Takes 53 #[.pointer (some ⟨b, 0, none⟩)] b s (.tuple #[labV 0 0, .int .i64 3]) r := by
  intro w hw
  rw [labV_eq 0 0]
  have f1 : IntKind.i64.wrap (n : Int) = (n : Int) := wrap_i64 (by omega) (by omega)
  go_enter Try.func53, Try.ntmps53
  have hm := Mem.start hw
  go_wp2_with ((first | refine wpList_skip (by rfl) ?_ | (refine wlL (hm := hm) (hu := by first | exact undID | exact undLabel) (hi := by (try simp only [rowOf_size, idC_size]); first | exact sizeID | exact sizeLabel) (h := ?_); (try simp only [Act.put, k1, k2, k3]); (try simp only [← labV_eq, ← idV_eq])) | refine wlLC (hm := hm) (hu := by first | exact undStr | exact undByteI | exact undInt | exact undU64) (h := ?_) | (refine wlS (hm := hm) (hv := (by first | rfl | exact idV_eq _ | exact labV_eq _ _ | exact rectV_eq _ _ _ _)) (hi := by (try simp only [rowOf_size, idC_size]); first | exact sizeID | exact sizeLabel) (hs := by first | (simp only [rowOf_size, idC_size]; done) | rfl) (h1 := by first | rfl | exact idC_one _ | exact rowOf_one _ _ (fun _ _ => rfl) | (simp only [List.size_toArray, List.length_cons, List.all_toArray', List.all_cons, List.all_nil, Value.oneCell', Bool.and_true, Bool.and_self]; done) | (simp [Value.oneCell']; done)) (h := ?_); clear hm; intro w1 hm; (try simp only [rowOf_set, k1, k2, k3, Value.cells, Act.eval, k7, k8, k9, kA, Option.getD_some] at hm)) | (refine wlSC (hm := hm) (hi := by first | exact sizeStr | exact sizeByteI | exact sizeInt | exact sizeU64) (ho := by first | decide | (simp only [rowOf_size, idC_size]; omega) | (simp; done)) (h := ?_); clear hm; intro w1 hm; (try simp only [rowOf_set, k1, k2, k3, Value.cells, Act.eval, k7, k8, k9, kA, Option.getD_some] at hm)) | (refine wlA (hz := by first | exact zeroID | exact zeroLabel) (hm := hm) (h := ?_); clear hm; intro b1 w1 hm; (try simp only [rowOf_set, k1, k2, k3, Value.cells, Act.eval, k7, k8, k9, kA, Option.getD_some] at hm)) | (refine wl_box (by rfl) rfl (by first | exact idV_cells _ | exact labV_cells _ _ | exact rectV_cells _ _ _ _ | rfl) hm ?_; clear hm; intro b1 w1 hm) | (refine wl_build (by rfl) (built_zeroL) rfl ?_; (try simp only [Act.put, k1, k2, k3]); (try simp only [← labV_eq, ← idV_eq])) | (refine wl_build (by rfl) (built_lab1 _) rfl ?_; (try simp only [Act.put, k1, k2, k3]); (try simp only [← labV_eq, ← idV_eq])) | (go_at_call 84; refine (h1 _ (hm.heap (by with_reducible first | exact at0 | exact at1 | exact at2 | exact at3 | exact at4))).mono ?_; rintro e w1 ⟨rfl, hx⟩; replace hm := hm.callAt (by with_reducible first | exact at0 | exact at1 | exact at2 | exact at3 | exact at4) hx; clear hx; simp only [k2, k3] at hm) | (with_reducible first | refine stBs ?_ | refine stMs ?_ | refine stAp ?_ | refine stCo ?_)); (try simp only [k4, k5, k6, Act.put, k1, k2, k3]))
  refine bodyPost_ret (results_row_tmp (h := rfl) _ _ _ _ _ _ _ rfl (hm.heap (i := 1) rfl) undLabel rfl (by first | exact sizeLabel | (simp only [rowOf_size, idC_size]; exact sizeLabel))) rfl ?_
  exact ⟨rfl, hm.tail.tail⟩
theorem label_err2 (b : Nat) (s s1 r t0 x : ByteArray) (n c : Nat) (hn : ¬ 64 < n) (hc : (n + 7) / 8 = c) (hI0 : ∀ w, (Instr.index 9 (.string t0) (.int .i64 0)).run Try.prog w = .ok (.int .u8 (n : Int)) w)
    (h1 : Takes 84 #[.pointer (some ⟨b, 0, none⟩), .int .i64 1] b s (.tuple #[.string t0, .int .i64 0]) s1)
    (h2 : Takes 84 #[.pointer (some ⟨b, 0, none⟩), .int .i64 (c : Int)] b s1 (.tuple #[.string x, .int .i64 4]) r) :
    Takes 53 #[.pointer (some ⟨b, 0, none⟩)] b s (.tuple #[labV 0 0, .int .i64 4]) r := by
  intro w hw
  rw [labV_eq 0 0]
  have f1 : IntKind.i64.wrap (n : Int) = (n : Int) := wrap_i64 (by omega) (by omega)
  obtain ⟨n8, hn8⟩ : ∃ x, n + 8 = x := ⟨_, rfl⟩
  obtain ⟨n7, hn7⟩ : ∃ x, n + 7 = x := ⟨_, rfl⟩
  have f2 : IntKind.i64.wrap ((n : Int) + 8) = (n8 : Int) := by rw [wrap_i64 (by omega) (by omega)]; omega
  have f3 : IntKind.i64.wrap ((n8 : Int) - 1) = (n7 : Int) := by rw [wrap_i64 (by omega) (by omega)]; omega
  have f4 : (n7 : Int) / 8 = (c : Int) := by omega
  have f5 : (n7 : Int).tdiv 8 = (c : Int) := by rw [Int.tdiv_eq_ediv_of_nonneg (by omega)]; exact f4
  have f6 : IntKind.i64.wrap (c : Int) = (c : Int) := wrap_i64 (by omega) (by omega)
  clear hn8 hn7 hc
  go_enter Try.func53, Try.ntmps53
  have hm := Mem.start hw
  go_wp2_with ((first | refine wpList_skip (by rfl) ?_ | (refine wlL (hm := hm) (hu := by first | exact undID | exact undLabel) (hi := by (try simp only [rowOf_size, idC_size]); first | exact sizeID | exact sizeLabel) (h := ?_); (try simp only [Act.put, k1, k2, k3]); (try simp only [← labV_eq, ← idV_eq])) | refine wlLC (hm := hm) (hu := by first | exact undStr | exact undByteI | exact undInt | exact undU64) (h := ?_) | (refine wlS (hm := hm) (hv := (by first | rfl | exact idV_eq _ | exact labV_eq _ _ | exact rectV_eq _ _ _ _)) (hi := by (try simp only [rowOf_size, idC_size]); first | exact sizeID | exact sizeLabel) (hs := by first | (simp only [rowOf_size, idC_size]; done) | rfl) (h1 := by first | rfl | exact idC_one _ | exact rowOf_one _ _ (fun _ _ => rfl) | (simp only [List.size_toArray, List.length_cons, List.all_toArray', List.all_cons, List.all_nil, Value.oneCell', Bool.and_true, Bool.and_self]; done) | (simp [Value.oneCell']; done)) (h := ?_); clear hm; intro w1 hm; (try simp only [rowOf_set, k1, k2, k3, Value.cells, Act.eval, k7, k8, k9, kA, Option.getD_some] at hm)) | (refine wlSC (hm := hm) (hi := by first | exact sizeStr | exact sizeByteI | exact sizeInt | exact sizeU64) (ho := by first | decide | (simp only [rowOf_size, idC_size]; omega) | (simp; done)) (h := ?_); clear hm; intro w1 hm; (try simp only [rowOf_set, k1, k2, k3, Value.cells, Act.eval, k7, k8, k9, kA, Option.getD_some] at hm)) | (refine wlA (hz := by first | exact zeroID | exact zeroLabel) (hm := hm) (h := ?_); clear hm; intro b1 w1 hm; (try simp only [rowOf_set, k1, k2, k3, Value.cells, Act.eval, k7, k8, k9, kA, Option.getD_some] at hm)) | (refine wl_box (by rfl) rfl (by first | exact idV_cells _ | exact labV_cells _ _ | exact rectV_cells _ _ _ _ | rfl) hm ?_; clear hm; intro b1 w1 hm) | (refine wl_build (by rfl) (built_zeroL) rfl ?_; (try simp only [Act.put, k1, k2, k3]); (try simp only [← labV_eq, ← idV_eq])) | (refine wl_build (by rfl) (built_lab1 _) rfl ?_; (try simp only [Act.put, k1, k2, k3]); (try simp only [← labV_eq, ← idV_eq])) | (go_at_call 84; refine (h1 _ (hm.heap (by with_reducible first | exact at0 | exact at1 | exact at2 | exact at3 | exact at4))).mono ?_; rintro e w1 ⟨rfl, hx⟩; replace hm := hm.callAt (by with_reducible first | exact at0 | exact at1 | exact at2 | exact at3 | exact at4) hx; clear hx; simp only [k2, k3] at hm) | (go_at_call 84; refine (h2 _ (hm.heap (by with_reducible first | exact at0 | exact at1 | exact at2 | exact at3 | exact at4))).mono ?_; rintro e w1 ⟨rfl, hx⟩; replace hm := hm.callAt (by with_reducible first | exact at0 | exact at1 | exact at2 | exact at3 | exact at4) hx; clear hx; simp only [k2, k3] at hm) | (with_reducible first | refine stBs ?_ | refine stMs ?_ | refine stAp ?_ | refine stCo ?_)); (try simp only [k4, k5, k6, Act.put, k1, k2, k3]))
  refine bodyPost_ret (results_row_tmp (h := rfl) _ _ _ _ _ _ _ rfl (hm.heap (i := 1) rfl) undLabel rfl (by first | exact sizeLabel | (simp only [rowOf_size, idC_size]; exact sizeLabel))) rfl ?_
  exact ⟨rfl, hm.tail.tail⟩
/-- Bits out of bytes, the first one highest. -/
def labAcc (F : Nat → Nat) : Nat → Nat
  | 0 => 0
  | k + 1 => labAcc F k + F k * 2 ^ (56 - 8 * k)
theorem labAcc_ok (F : Nat → Nat) (hF : ∀ k, F k < 256) : ∀ k, k ≤ 8 → labAcc F k % 2 ^ (64 - 8 * k) = 0 ∧ labAcc F k < 2 ^ 64
  | 0, _ => ⟨Nat.zero_mod _, by show 0 < 2 ^ 64; decide⟩
  | k + 1, h => by
    obtain ⟨h1, h2⟩ := labAcc_ok F hF k (by omega)
    have hf := hF k
    have e : 2 ^ (64 - 8 * k) = 2 ^ (56 - 8 * k) * 256 := by rw [show 64 - 8 * k = 56 - 8 * k + 8 from by omega, Nat.pow_add]
    obtain ⟨q, hq⟩ : ∃ q, labAcc F k = 2 ^ (64 - 8 * k) * q := ⟨_, (Nat.mul_div_cancel' (Nat.dvd_of_mod_eq_zero h1)).symm⟩
    have e2 : labAcc F (k + 1) = 2 ^ (56 - 8 * k) * (256 * q + F k) := by rw [labAcc, hq, e, Nat.mul_add, Nat.mul_assoc, Nat.mul_comm (F k)]
    have e64 : 2 ^ 64 = 2 ^ (64 - 8 * k) * 2 ^ (8 * k) := by rw [← Nat.pow_add]; congr 1; omega
    refine ⟨by rw [show 64 - 8 * (k + 1) = 56 - 8 * k from by omega, e2]; exact Nat.mul_mod_right _ _, ?_⟩
    have hq2 : q < 2 ^ (8 * k) := by
      rw [hq, e64] at h2
      exact Nat.lt_of_mul_lt_mul_left h2
    rw [e2, e64, e, Nat.mul_assoc]
    refine Nat.mul_lt_mul_of_pos_left ?_ (Nat.pow_pos (by omega))
    omega
theorem labAcc_or (F : Nat → Nat) (hF : ∀ k, F k < 256) (k : Nat) (h : k < 8) : labAcc F k ||| F k * 2 ^ (56 - 8 * k) = labAcc F (k + 1) := by
  obtain ⟨h1, h2⟩ := labAcc_ok F hF k (by omega)
  have hf := hF k
  have e : 2 ^ (64 - 8 * k) = 2 ^ (56 - 8 * k) * 256 := by rw [show 64 - 8 * k = 56 - 8 * k + 8 from by omega, Nat.pow_add]
  obtain ⟨q, hq⟩ : ∃ q, labAcc F k = 2 ^ (64 - 8 * k) * q := ⟨_, (Nat.mul_div_cancel' (Nat.dvd_of_mod_eq_zero h1)).symm⟩
  rw [labAcc, hq, Nat.two_pow_add_eq_or_of_lt]
  rw [e, Nat.mul_comm]
  exact Nat.mul_lt_mul_of_pos_left hf (Nat.pow_pos (by omega))
theorem label_go (b : Nat) (s s1 r t0 t : ByteArray) (n c : Nat) (F : Nat → Nat) (hF : ∀ k, F k < 256) (hn : ¬ 64 < n) (hc : (n + 7) / 8 = c) (ht : t.size = c) (q : Bool)
    (hI0 : ∀ w, (Instr.index 9 (.string t0) (.int .i64 0)).run Try.prog w = .ok (.int .u8 (n : Int)) w) (hI : ∀ k : Nat, k < c → ∀ w, (Instr.index 9 (.string t) (.int .i64 (k : Int))).run Try.prog w = .ok (.int .u8 ((F k : Nat) : Int)) w)
    (hi : Says 33 #[labV (n : Int) (labAcc F c)] (.bool q))
    (h1 : Takes 84 #[.pointer (some ⟨b, 0, none⟩), .int .i64 1] b s (.tuple #[.string t0, .int .i64 0]) s1)
    (h2 : Takes 84 #[.pointer (some ⟨b, 0, none⟩), .int .i64 (c : Int)] b s1 (.tuple #[.string t, .int .i64 0]) r) :
    Takes 53 #[.pointer (some ⟨b, 0, none⟩)] b s (if q then .tuple #[labV (n : Int) (labAcc F c), .int .i64 0] else .tuple #[labV 0 0, .int .i64 3]) r := by
  intro w hw
  obtain ⟨res, hres⟩ : ∃ res, (if q then Value.tuple #[labV (n : Int) (labAcc F c), .int .i64 0] else .tuple #[labV 0 0, .int .i64 3]) = res := ⟨_, rfl⟩
  rw [hres]
  have HRes := hid hres
  have HF := hid hF
  have HI := hid hI
  have f1 : IntKind.i64.wrap (n : Int) = (n : Int) := wrap_i64 (by omega) (by omega)
  obtain ⟨n8, hn8⟩ : ∃ x, n + 8 = x := ⟨_, rfl⟩
  obtain ⟨n7, hn7⟩ : ∃ x, n + 7 = x := ⟨_, rfl⟩
  have f2 : IntKind.i64.wrap ((n : Int) + 8) = (n8 : Int) := by rw [wrap_i64 (by omega) (by omega)]; omega
  have f3 : IntKind.i64.wrap ((n8 : Int) - 1) = (n7 : Int) := by rw [wrap_i64 (by omega) (by omega)]; omega
  have f4 : (n7 : Int) / 8 = (c : Int) := by omega
  have f5 : (n7 : Int).tdiv 8 = (c : Int) := by rw [Int.tdiv_eq_ediv_of_nonneg (by omega)]; exact f4
  have f6 : IntKind.i64.wrap (c : Int) = (c : Int) := wrap_i64 (by omega) (by omega)
  have HC := hid (show c ≤ 8 from by omega)
  clear hn8 hn7 hc hres hF hI
  have Hi := hid hi
  clear hi
  go_enter Try.func53, Try.ntmps53
  have hm := Mem.start hw
  clear hw
  go_wp2_with (with_reducible first | refine stAl ?_ | refine stBo ?_ | refine stLo ?_ | refine stSo ?_ | refine stBu ?_ | refine stBs ?_ | refine stMs ?_ | refine stAp ?_ | refine stCo ?_); refine Stop.go (wl_alloc (by rfl) zeroLabel rfl hm ?_); clear hm; intro b2 w2 hm; simp only [Act.put, k1, k2, k3]; (try simp only [rowOf_set, k1, k2, k3, Value.cells, Act.eval, k7, k8, k9, kA, Option.getD_some] at hm)
  go_wp2_with ((first | refine wpList_skip (by rfl) ?_ | (refine wlL (hm := hm) (hu := by first | exact undID | exact undLabel) (hi := by (try simp only [rowOf_size, idC_size]); first | exact sizeID | exact sizeLabel) (h := ?_); (try simp only [Act.put, k1, k2, k3]); (try simp only [← labV_eq, ← idV_eq])) | refine wlLC (hm := hm) (hu := by first | exact undStr | exact undByteI | exact undInt | exact undU64) (h := ?_) | (refine wlS (hm := hm) (hv := (by first | rfl | exact idV_eq _ | exact labV_eq _ _ | exact rectV_eq _ _ _ _)) (hi := by (try simp only [rowOf_size, idC_size]); first | exact sizeID | exact sizeLabel) (hs := by first | (simp only [rowOf_size, idC_size]; done) | rfl) (h1 := by first | rfl | exact idC_one _ | exact rowOf_one _ _ (fun _ _ => rfl) | (simp only [List.size_toArray, List.length_cons, List.all_toArray', List.all_cons, List.all_nil, Value.oneCell', Bool.and_true, Bool.and_self]; done) | (simp [Value.oneCell']; done)) (h := ?_); clear hm; intro w1 hm; (try simp only [rowOf_set, k1, k2, k3, Value.cells, Act.eval, k7, k8, k9, kA, Option.getD_some] at hm)) | (refine wlSC (hm := hm) (hi := by first | exact sizeStr | exact sizeByteI | exact sizeInt | exact sizeU64) (ho := by first | decide | (simp only [rowOf_size, idC_size]; omega) | (simp; done)) (h := ?_); clear hm; intro w1 hm; (try simp only [rowOf_set, k1, k2, k3, Value.cells, Act.eval, k7, k8, k9, kA, Option.getD_some] at hm)) | (refine wlA (hz := by first | exact zeroID | exact zeroLabel) (hm := hm) (h := ?_); clear hm; intro b1 w1 hm; (try simp only [rowOf_set, k1, k2, k3, Value.cells, Act.eval, k7, k8, k9, kA, Option.getD_some] at hm)) | (refine wl_box (by rfl) rfl (by first | exact idV_cells _ | exact labV_cells _ _ | exact rectV_cells _ _ _ _ | rfl) hm ?_; clear hm; intro b1 w1 hm) | (refine wl_build (by rfl) (built_zeroL) rfl ?_; (try simp only [Act.put, k1, k2, k3]); (try simp only [← labV_eq, ← idV_eq])) | (refine wl_build (by rfl) (built_lab1 _) rfl ?_; (try simp only [Act.put, k1, k2, k3]); (try simp only [← labV_eq, ← idV_eq])) | (go_at_call 84; refine (h1 _ (hm.heap (by with_reducible first | exact at0 | exact at1 | exact at2 | exact at3 | exact at4))).mono ?_; rintro e w1 ⟨rfl, hx⟩; replace hm := hm.callAt (by with_reducible first | exact at0 | exact at1 | exact at2 | exact at3 | exact at4) hx; clear hx; simp only [k2, k3] at hm) | (go_at_call 84; refine (h2 _ (hm.heap (by with_reducible first | exact at0 | exact at1 | exact at2 | exact at3 | exact at4))).mono ?_; rintro e w1 ⟨rfl, hx⟩; replace hm := hm.callAt (by with_reducible first | exact at0 | exact at1 | exact at2 | exact at3 | exact at4) hx; clear hx; simp only [k2, k3] at hm) | (with_reducible first | refine stBs ?_ | refine stMs ?_ | refine stAp ?_ | refine stCo ?_)); (try simp only [k4, k5, k6, Act.put, k1, k2, k3]))
  clear h1 h2 hI0 f1 f2 f3 f4 f5 f6 hn
  go_loopw [41] (fun vi wr => ∃ k : Nat, k ≤ c ∧ vi = .int .i64 (k : Int) ∧ Mem w [b] [(b1, .cells #[.int .i64 (n : Int), .int .u64 ((labAcc F k : Nat) : Int)] 26 (0, 0)), (b2, .cells #[.int .i64 0, .int .u64 0] 26 (0, 0)), (b, .cells #[.string r] 76 (0, 0))] wr)
    (fun vi _ => (c - intOf vi).toNat)
  case atStart => exact ⟨0, by omega, rfl, hm⟩
  case round =>
    clear hm
    obtain ⟨k, hk, rfl, hm⟩ := hrel
    by_cases hkc : k < c
    · have hi := HI.out k hkc
      have hfk := HF.out k
      have hc8 := HC.out
      obtain ⟨hA1, hA2⟩ := labAcc_ok F HF.out k (by omega)
      obtain ⟨hB1, hB2⟩ := labAcc_ok F HF.out (k + 1) (by omega)
      have hor := labAcc_or F HF.out k (by omega)
      obtain ⟨y, hy⟩ : ∃ y, F k = y := ⟨_, rfl⟩
      obtain ⟨v, hv⟩ : ∃ v, labAcc F k = v := ⟨_, rfl⟩
      obtain ⟨v', hv'⟩ : ∃ v', labAcc F (k + 1) = v' := ⟨_, rfl⟩
      obtain ⟨x, hx⟩ : ∃ x, 56 - 8 * k = x := ⟨_, rfl⟩
      obtain ⟨x8, hx8⟩ : ∃ x, 8 * k = x := ⟨_, rfl⟩
      rw [hy] at hi hfk hor
      rw [hv] at hm hor hA2
      rw [hv'] at hor hB2
      rw [hx] at hor
      have hp : 2 ^ x ≤ 2 ^ 56 := Nat.pow_le_pow_right (by omega) (by omega)
      have hz64 : y * 2 ^ x < 2 ^ 64 := by
        have := Nat.mul_lt_mul_of_lt_of_le hfk hp (Nat.pow_pos (by omega))
        omega
      obtain ⟨z, hz⟩ : ∃ z, y * 2 ^ x = z := ⟨_, rfl⟩
      rw [hz] at hor hz64
      have g0 : IntKind.u64.wrap (y : Int) = (y : Int) := wrap_u64 (by omega) (by omega)
      have g1 : IntKind.i64.wrap (8 * (k : Int)) = (x8 : Int) := by rw [wrap_i64 (by omega) (by omega)]; omega
      have g2 : IntKind.i64.wrap (56 - (x8 : Int)) = (x : Int) := by rw [wrap_i64 (by omega) (by omega)]; omega
      have g3 : IntKind.u64.wrap ((y : Int) * 2 ^ x) = (z : Int) := by
        rw [show (y : Int) * 2 ^ x = ((y * 2 ^ x : Nat) : Int) from by push_cast; rfl, hz]
        exact wrap_u64 (by omega) (by omega)
      have hmin : min x 64 = x := by omega
      have g4 : bits .or .u64 (v : Int) (z : Int) = (v' : Int) := by rw [u64_or_nat _ _ hA2 hz64, hor]
      have g5 : IntKind.i64.wrap ((k : Int) + 1) = (k : Int) + 1 := wrap_i64 (by omega) (by omega)
      have z0 : (0 : Int) ≤ (x : Int) := by omega
      have e1 : (k : Int) < (c : Int) := by omega
      have HV := hid hv'
      clear hA1 hA2 hB1 hB2 hor hy hv hv' hx hx8 hp hz64 hz hc8 hfk hk
      go_wp2_with ((first | refine wpList_skip (by rfl) ?_ | (refine wlL (hm := hm) (hu := by first | exact undID | exact undLabel) (hi := by (try simp only [rowOf_size, idC_size]); first | exact sizeID | exact sizeLabel) (h := ?_); (try simp only [Act.put, k1, k2, k3]); (try simp only [← labV_eq, ← idV_eq])) | refine wlLC (hm := hm) (hu := by first | exact undStr | exact undByteI | exact undInt | exact undU64) (h := ?_) | (refine wlS (hm := hm) (hv := (by first | rfl | exact idV_eq _ | exact labV_eq _ _ | exact rectV_eq _ _ _ _)) (hi := by (try simp only [rowOf_size, idC_size]); first | exact sizeID | exact sizeLabel) (hs := by first | (simp only [rowOf_size, idC_size]; done) | rfl) (h1 := by first | rfl | exact idC_one _ | exact rowOf_one _ _ (fun _ _ => rfl) | (simp only [List.size_toArray, List.length_cons, List.all_toArray', List.all_cons, List.all_nil, Value.oneCell', Bool.and_true, Bool.and_self]; done) | (simp [Value.oneCell']; done)) (h := ?_); clear hm; intro w1 hm; (try simp only [rowOf_set, k1, k2, k3, Value.cells, Act.eval, k7, k8, k9, kA, Option.getD_some] at hm)) | (refine wlSC (hm := hm) (hi := by first | exact sizeStr | exact sizeByteI | exact sizeInt | exact sizeU64) (ho := by first | decide | (simp only [rowOf_size, idC_size]; omega) | (simp; done)) (h := ?_); clear hm; intro w1 hm; (try simp only [rowOf_set, k1, k2, k3, Value.cells, Act.eval, k7, k8, k9, kA, Option.getD_some] at hm)) | (refine wlA (hz := by first | exact zeroID | exact zeroLabel) (hm := hm) (h := ?_); clear hm; intro b1 w1 hm; (try simp only [rowOf_set, k1, k2, k3, Value.cells, Act.eval, k7, k8, k9, kA, Option.getD_some] at hm)) | (refine wl_box (by rfl) rfl (by first | exact idV_cells _ | exact labV_cells _ _ | exact rectV_cells _ _ _ _ | rfl) hm ?_; clear hm; intro b1 w1 hm) | (refine wl_build (by rfl) (built_zeroL) rfl ?_; (try simp only [Act.put, k1, k2, k3]); (try simp only [← labV_eq, ← idV_eq])) | (refine wl_build (by rfl) (built_lab1 _) rfl ?_; (try simp only [Act.put, k1, k2, k3]); (try simp only [← labV_eq, ← idV_eq])) | (go_at_call 33; refine (hi _).mono ?_; rintro e w1 ⟨rfl, hx⟩; replace hm := hm.call hx; clear hx) | (with_reducible first | refine stBs ?_ | refine stMs ?_ | refine stAp ?_ | refine stCo ?_)); (try simp only [k4, k5, k6, Act.put, k1, k2, k3]))
      go_wp2_with (with_reducible first | refine stAl ?_ | refine stBo ?_ | refine stLo ?_ | refine stSo ?_ | refine stBu ?_ | refine stBs ?_ | refine stMs ?_ | refine stAp ?_ | refine stCo ?_); refine wp_quiet_last 12 (by kernel_rfl) rfl (by kernel_rfl) (by kernel_rfl) hm ?_; simp only [List.take_succ_cons, List.take_zero, List.cons_append, List.nil_append, hush]
      repeat ((first | refine wq_skip (by rfl) ?_ | (refine wqL (hu := by first | exact undID | exact undLabel) (hi := by (try simp only [rowOf_size, idC_size]); first | exact sizeID | exact sizeLabel) (h := ?_); (try simp only [Act.put, k1, k2, k3]); (try simp only [← labV_eq, ← idV_eq])) | refine wqLC (hu := by first | exact undStr | exact undByteI | exact undInt | exact undU64) (h := ?_) | ((with_reducible show wpQuiet _ _ _ _ (⟨_, .call _, _, _, _, _⟩ :: _) _); refine wq_ask (by rfl) ?_; apply Exists.intro; refine ⟨?_, ?_⟩; (focus (intro w hC; go_simp; first | (go_at_call 33; exact (hi _).mono fun e w' h => ⟨h.1, hC.call h.2⟩)))) | (refine wq_build (by rfl) (built_zeroL) rfl ?_; (try simp only [Act.put, k1, k2, k3]); (try simp only [← labV_eq, ← idV_eq])) | (refine wq_build (by rfl) (built_lab1 _) rfl ?_; (try simp only [Act.put, k1, k2, k3]); (try simp only [← labV_eq, ← idV_eq])) | refine wqS (h := ?_)); (try simp only [k4, k5, k6, Act.put, k1, k2, k3]))
      refine wpQuiet_nil ?_; clear hm; intro w7 hm
      go_wp2_with ((first | refine wpList_skip (by rfl) ?_ | (refine wlL (hm := hm) (hu := by first | exact undID | exact undLabel) (hi := by (try simp only [rowOf_size, idC_size]); first | exact sizeID | exact sizeLabel) (h := ?_); (try simp only [Act.put, k1, k2, k3]); (try simp only [← labV_eq, ← idV_eq])) | refine wlLC (hm := hm) (hu := by first | exact undStr | exact undByteI | exact undInt | exact undU64) (h := ?_) | (refine wlS (hm := hm) (hv := (by first | rfl | exact idV_eq _ | exact labV_eq _ _ | exact rectV_eq _ _ _ _)) (hi := by (try simp only [rowOf_size, idC_size]); first | exact sizeID | exact sizeLabel) (hs := by first | (simp only [rowOf_size, idC_size]; done) | rfl) (h1 := by first | rfl | exact idC_one _ | exact rowOf_one _ _ (fun _ _ => rfl) | (simp only [List.size_toArray, List.length_cons, List.all_toArray', List.all_cons, List.all_nil, Value.oneCell', Bool.and_true, Bool.and_self]; done) | (simp [Value.oneCell']; done)) (h := ?_); clear hm; intro w1 hm; (try simp only [rowOf_set, k1, k2, k3, Value.cells, Act.eval, k7, k8, k9, kA, Option.getD_some] at hm)) | (refine wlSC (hm := hm) (hi := by first | exact sizeStr | exact sizeByteI | exact sizeInt | exact sizeU64) (ho := by first | decide | (simp only [rowOf_size, idC_size]; omega) | (simp; done)) (h := ?_); clear hm; intro w1 hm; (try simp only [rowOf_set, k1, k2, k3, Value.cells, Act.eval, k7, k8, k9, kA, Option.getD_some] at hm)) | (refine wlA (hz := by first | exact zeroID | exact zeroLabel) (hm := hm) (h := ?_); clear hm; intro b1 w1 hm; (try simp only [rowOf_set, k1, k2, k3, Value.cells, Act.eval, k7, k8, k9, kA, Option.getD_some] at hm)) | (refine wl_box (by rfl) rfl (by first | exact idV_cells _ | exact labV_cells _ _ | exact rectV_cells _ _ _ _ | rfl) hm ?_; clear hm; intro b1 w1 hm) | (refine wl_build (by rfl) (built_zeroL) rfl ?_; (try simp only [Act.put, k1, k2, k3]); (try simp only [← labV_eq, ← idV_eq])) | (refine wl_build (by rfl) (built_lab1 _) rfl ?_; (try simp only [Act.put, k1, k2, k3]); (try simp only [← labV_eq, ← idV_eq])) | (go_at_call 33; refine (hi _).mono ?_; rintro e w1 ⟨rfl, hx⟩; replace hm := hm.call hx; clear hx) | (with_reducible first | refine stBs ?_ | refine stMs ?_ | refine stAp ?_ | refine stCo ?_)); (try simp only [k4, k5, k6, Act.put, k1, k2, k3]))
      go_roundw
      case rel => exact ⟨k + 1, by omega, by go_num, by rw [HV.out]; exact hm⟩
      case measure => (simp [intOf]; try omega)
    · obtain rfl : k = c := by omega
      have hi := Hi.out
      obtain ⟨v, hv⟩ : ∃ v, labAcc F k = v := ⟨_, rfl⟩
      have hrs := HRes.out
      rw [hv] at hm hi hrs
      have HR2 := hid hrs
      clear hrs hk hkc hv
      cases q with
      | false =>
        have hrs := HR2.out
        rw [if_neg (by decide), labV_eq 0 0] at hrs
        have HR3 := hid hrs
        clear hrs HR2 HRes
        go_wp2_with ((first | refine wpList_skip (by rfl) ?_ | (refine wlL (hm := hm) (hu := by first | exact undID | exact undLabel) (hi := by (try simp only [rowOf_size, idC_size]); first | exact sizeID | exact sizeLabel) (h := ?_); (try simp only [Act.put, k1, k2, k3]); (try simp only [← labV_eq, ← idV_eq])) | refine wlLC (hm := hm) (hu := by first | exact undStr | exact undByteI | exact undInt | exact undU64) (h := ?_) | (refine wlS (hm := hm) (hv := (by first | rfl | exact idV_eq _ | exact labV_eq _ _ | exact rectV_eq _ _ _ _)) (hi := by (try simp only [rowOf_size, idC_size]); first | exact sizeID | exact sizeLabel) (hs := by first | (simp only [rowOf_size, idC_size]; done) | rfl) (h1 := by first | rfl | exact idC_one _ | exact rowOf_one _ _ (fun _ _ => rfl) | (simp only [List.size_toArray, List.length_cons, List.all_toArray', List.all_cons, List.all_nil, Value.oneCell', Bool.and_true, Bool.and_self]; done) | (simp [Value.oneCell']; done)) (h := ?_); clear hm; intro w1 hm; (try simp only [rowOf_set, k1, k2, k3, Value.cells, Act.eval, k7, k8, k9, kA, Option.getD_some] at hm)) | (refine wlSC (hm := hm) (hi := by first | exact sizeStr | exact sizeByteI | exact sizeInt | exact sizeU64) (ho := by first | decide | (simp only [rowOf_size, idC_size]; omega) | (simp; done)) (h := ?_); clear hm; intro w1 hm; (try simp only [rowOf_set, k1, k2, k3, Value.cells, Act.eval, k7, k8, k9, kA, Option.getD_some] at hm)) | (refine wlA (hz := by first | exact zeroID | exact zeroLabel) (hm := hm) (h := ?_); clear hm; intro b1 w1 hm; (try simp only [rowOf_set, k1, k2, k3, Value.cells, Act.eval, k7, k8, k9, kA, Option.getD_some] at hm)) | (refine wl_box (by rfl) rfl (by first | exact idV_cells _ | exact labV_cells _ _ | exact rectV_cells _ _ _ _ | rfl) hm ?_; clear hm; intro b1 w1 hm) | (refine wl_build (by rfl) (built_zeroL) rfl ?_; (try simp only [Act.put, k1, k2, k3]); (try simp only [← labV_eq, ← idV_eq])) | (refine wl_build (by rfl) (built_lab1 _) rfl ?_; (try simp only [Act.put, k1, k2, k3]); (try simp only [← labV_eq, ← idV_eq])) | (go_at_call 33; refine (hi _).mono ?_; rintro e w1 ⟨rfl, hx⟩; replace hm := hm.call hx; clear hx) | (with_reducible first | refine stBs ?_ | refine stMs ?_ | refine stAp ?_ | refine stCo ?_)); (try simp only [k4, k5, k6, Act.put, k1, k2, k3]))
        refine bodyPost_ret (results_row_tmp (h := rfl) _ _ _ _ _ _ _ rfl (hm.heap (i := 1) rfl) undLabel rfl (by first | exact sizeLabel | (simp only [rowOf_size, idC_size]; exact sizeLabel))) rfl ?_
        exact ⟨by rw [← HR3.out] <;> rfl, hm.tail.tail⟩
      | true =>
        have hrs := HR2.out
        rw [if_pos rfl, labV_eq (n : Int) v] at hrs
        have HR3 := hid hrs
        clear hrs HR2 HRes
        go_wp2_with ((first | refine wpList_skip (by rfl) ?_ | (refine wlL (hm := hm) (hu := by first | exact undID | exact undLabel) (hi := by (try simp only [rowOf_size, idC_size]); first | exact sizeID | exact sizeLabel) (h := ?_); (try simp only [Act.put, k1, k2, k3]); (try simp only [← labV_eq, ← idV_eq])) | refine wlLC (hm := hm) (hu := by first | exact undStr | exact undByteI | exact undInt | exact undU64) (h := ?_) | (refine wlS (hm := hm) (hv := (by first | rfl | exact idV_eq _ | exact labV_eq _ _ | exact rectV_eq _ _ _ _)) (hi := by (try simp only [rowOf_size, idC_size]); first | exact sizeID | exact sizeLabel) (hs := by first | (simp only [rowOf_size, idC_size]; done) | rfl) (h1 := by first | rfl | exact idC_one _ | exact rowOf_one _ _ (fun _ _ => rfl) | (simp only [List.size_toArray, List.length_cons, List.all_toArray', List.all_cons, List.all_nil, Value.oneCell', Bool.and_true, Bool.and_self]; done) | (simp [Value.oneCell']; done)) (h := ?_); clear hm; intro w1 hm; (try simp only [rowOf_set, k1, k2, k3, Value.cells, Act.eval, k7, k8, k9, kA, Option.getD_some] at hm)) | (refine wlSC (hm := hm) (hi := by first | exact sizeStr | exact sizeByteI | exact sizeInt | exact sizeU64) (ho := by first | decide | (simp only [rowOf_size, idC_size]; omega) | (simp; done)) (h := ?_); clear hm; intro w1 hm; (try simp only [rowOf_set, k1, k2, k3, Value.cells, Act.eval, k7, k8, k9, kA, Option.getD_some] at hm)) | (refine wlA (hz := by first | exact zeroID | exact zeroLabel) (hm := hm) (h := ?_); clear hm; intro b1 w1 hm; (try simp only [rowOf_set, k1, k2, k3, Value.cells, Act.eval, k7, k8, k9, kA, Option.getD_some] at hm)) | (refine wl_box (by rfl) rfl (by first | exact idV_cells _ | exact labV_cells _ _ | exact rectV_cells _ _ _ _ | rfl) hm ?_; clear hm; intro b1 w1 hm) | (refine wl_build (by rfl) (built_zeroL) rfl ?_; (try simp only [Act.put, k1, k2, k3]); (try simp only [← labV_eq, ← idV_eq])) | (refine wl_build (by rfl) (built_lab1 _) rfl ?_; (try simp only [Act.put, k1, k2, k3]); (try simp only [← labV_eq, ← idV_eq])) | (go_at_call 33; refine (hi _).mono ?_; rintro e w1 ⟨rfl, hx⟩; replace hm := hm.call hx; clear hx) | (with_reducible first | refine stBs ?_ | refine stMs ?_ | refine stAp ?_ | refine stCo ?_)); (try simp only [k4, k5, k6, Act.put, k1, k2, k3]))
        refine bodyPost_ret (results_row_tmp (h := rfl) _ _ _ _ _ _ _ rfl (hm.heap (i := 1) rfl) undLabel rfl (by first | exact sizeLabel | (simp only [rowOf_size, idC_size]; exact sizeLabel))) rfl ?_
        exact ⟨by rw [← HR3.out] <;> rfl, hm.tail.tail⟩
theorem readL_nil (g : Value) : Says 52 #[.pointer none, g] (.tuple #[labV 0 0, .int .i64 6]) := by
  intro w
  rw [labV_eq 0 0]
  go_enter Try.func52, Try.ntmps52
  have hm := Mem.refl w []
  go_wp2_with ((first | refine wpList_skip (by rfl) ?_ | (refine wlL (hm := hm) (hu := by first | exact undID | exact undLabel) (hi := by (try simp only [rowOf_size, idC_size]); first | exact sizeID | exact sizeLabel) (h := ?_); (try simp only [Act.put, k1, k2, k3]); (try simp only [← labV_eq, ← idV_eq])) | refine wlLC (hm := hm) (hu := by first | exact undStr | exact undByteI | exact undInt | exact undU64) (h := ?_) | (refine wlS (hm := hm) (hv := (by first | rfl | exact idV_eq _ | exact labV_eq _ _ | exact rectV_eq _ _ _ _)) (hi := by (try simp only [rowOf_size, idC_size]); first | exact sizeID | exact sizeLabel) (hs := by first | (simp only [rowOf_size, idC_size]; done) | rfl) (h1 := by first | rfl | exact idC_one _ | exact rowOf_one _ _ (fun _ _ => rfl) | (simp only [List.size_toArray, List.length_cons, List.all_toArray', List.all_cons, List.all_nil, Value.oneCell', Bool.and_true, Bool.and_self]; done) | (simp [Value.oneCell']; done)) (h := ?_); clear hm; intro w1 hm; (try simp only [rowOf_set, k1, k2, k3, Value.cells, Act.eval, k7, k8, k9, kA, Option.getD_some] at hm)) | (refine wlSC (hm := hm) (hi := by first | exact sizeStr | exact sizeByteI | exact sizeInt | exact sizeU64) (ho := by first | decide | (simp only [rowOf_size, idC_size]; omega) | (simp; done)) (h := ?_); clear hm; intro w1 hm; (try simp only [rowOf_set, k1, k2, k3, Value.cells, Act.eval, k7, k8, k9, kA, Option.getD_some] at hm)) | (refine wlA (hz := by first | exact zeroID | exact zeroLabel) (hm := hm) (h := ?_); clear hm; intro b1 w1 hm; (try simp only [rowOf_set, k1, k2, k3, Value.cells, Act.eval, k7, k8, k9, kA, Option.getD_some] at hm)) | (refine wl_box (by rfl) rfl (by first | exact idV_cells _ | exact labV_cells _ _ | exact rectV_cells _ _ _ _ | rfl) hm ?_; clear hm; intro b1 w1 hm) | (refine wl_build (by rfl) (built_zeroL) rfl ?_; (try simp only [Act.put, k1, k2, k3]); (try simp only [← labV_eq, ← idV_eq])) | (refine wl_build (by rfl) (built_lab1 _) rfl ?_; (try simp only [Act.put, k1, k2, k3]); (try simp only [← labV_eq, ← idV_eq])) | (go_at_call 33; refine (hi _).mono ?_; rintro e w1 ⟨rfl, hx⟩; replace hm := hm.call hx; clear hx) | (with_reducible first | refine stBs ?_ | refine stMs ?_ | refine stAp ?_ | refine stCo ?_)); (try simp only [k4, k5, k6, Act.put, k1, k2, k3]))
  refine bodyPost_ret (results_row_tmp (h := rfl) _ _ _ _ _ _ _ rfl (hm.heap (i := 1) rfl) undLabel rfl (by first | exact sizeLabel | (simp only [rowOf_size, idC_size]; exact sizeLabel))) rfl ?_
  exact ⟨rfl, hm.ext⟩
theorem readL_ok (b : Nat) (s r : ByteArray) (l : Int) (k : Nat) (h1 : Takes 53 #[.pointer (some ⟨b, 0, none⟩)] b s (.tuple #[labV l k, .int .i64 0]) r) :
    Takes 52 #[.pointer (some ⟨b, 0, none⟩), .func (.func 53) #[.pointer (some ⟨b, 0, none⟩)] #[]] b s (.tuple #[labV l k, .int .i64 0]) r := by
  intro w hw
  go_enter Try.func52, Try.ntmps52
  have hm := Mem.start hw
  go_wp2_with ((first | refine wpList_skip (by rfl) ?_ | (refine wlL (hm := hm) (hu := by first | exact undID | exact undLabel) (hi := by (try simp only [rowOf_size, idC_size]); first | exact sizeID | exact sizeLabel) (h := ?_); (try simp only [Act.put, k1, k2, k3]); (try simp only [← labV_eq, ← idV_eq])) | refine wlLC (hm := hm) (hu := by first | exact undStr | exact undByteI | exact undInt | exact undU64) (h := ?_) | (refine wlS (hm := hm) (hv := (by first | rfl | exact idV_eq _ | exact labV_eq _ _ | exact rectV_eq _ _ _ _)) (hi := by (try simp only [rowOf_size, idC_size]); first | exact sizeID | exact sizeLabel) (hs := by first | (simp only [rowOf_size, idC_size]; done) | rfl) (h1 := by first | rfl | exact idC_one _ | exact rowOf_one _ _ (fun _ _ => rfl) | (simp only [List.size_toArray, List.length_cons, List.all_toArray', List.all_cons, List.all_nil, Value.oneCell', Bool.and_true, Bool.and_self]; done) | (simp [Value.oneCell']; done)) (h := ?_); clear hm; intro w1 hm; (try simp only [rowOf_set, k1, k2, k3, Value.cells, Act.eval, k7, k8, k9, kA, Option.getD_some] at hm)) | (refine wlSC (hm := hm) (hi := by first | exact sizeStr | exact sizeByteI | exact sizeInt | exact sizeU64) (ho := by first | decide | (simp only [rowOf_size, idC_size]; omega) | (simp; done)) (h := ?_); clear hm; intro w1 hm; (try simp only [rowOf_set, k1, k2, k3, Value.cells, Act.eval, k7, k8, k9, kA, Option.getD_some] at hm)) | (refine wlA (hz := by first | exact zeroID | exact zeroLabel) (hm := hm) (h := ?_); clear hm; intro b1 w1 hm; (try simp only [rowOf_set, k1, k2, k3, Value.cells, Act.eval, k7, k8, k9, kA, Option.getD_some] at hm)) | (refine wl_box (by rfl) rfl (by first | exact idV_cells _ | exact labV_cells _ _ | exact rectV_cells _ _ _ _ | rfl) hm ?_; clear hm; intro b1 w1 hm) | (refine wl_build (by rfl) (built_zeroL) rfl ?_; (try simp only [Act.put, k1, k2, k3]); (try simp only [← labV_eq, ← idV_eq])) | (refine wl_build (by rfl) (built_lab1 _) rfl ?_; (try simp only [Act.put, k1, k2, k3]); (try simp only [← labV_eq, ← idV_eq])) | (go_at_call 53; refine (h1 _ (hm.heap (by with_reducible first | exact at0 | exact at1 | exact at2 | exact at3 | exact at4))).mono ?_; rintro e w1 ⟨rfl, hx⟩; replace hm := hm.callAt (by with_reducible first | exact at0 | exact at1 | exact at2 | exact at3 | exact at4) hx; clear hx; simp only [k2, k3] at hm) | (with_reducible first | refine stBs ?_ | refine stMs ?_ | refine stAp ?_ | refine stCo ?_)); (try simp only [k4, k5, k6, Act.put, k1, k2, k3]))
  refine bodyPost_ret (results_row_tmp (h := rfl) _ _ _ _ _ _ _ rfl (hm.heap (i := 2) rfl) undLabel rfl (by first | exact sizeLabel | (simp only [rowOf_size, idC_size]; exact sizeLabel))) rfl ?_
  exact ⟨by rw [labV_eq l k] <;> rfl, hm.tail.tail.tail⟩
theorem readL_err (b : Nat) (s r : ByteArray) (l : Int) (k : Nat) (e : Int) (he : e ≠ 0) (h1 : Takes 53 #[.pointer (some ⟨b, 0, none⟩)] b s (.tuple #[labV l k, .int .i64 e]) r) :
    Takes 52 #[.pointer (some ⟨b, 0, none⟩), .func (.func 53) #[.pointer (some ⟨b, 0, none⟩)] #[]] b s (.tuple #[labV 0 0, .int .i64 e]) s := by
  intro w hw
  have he1 : (e != 0) = true := by simp [bne, he]
  rw [labV_eq 0 0]
  go_enter Try.func52, Try.ntmps52
  have hm := Mem.start hw
  go_wp2_with ((first | refine wpList_skip (by rfl) ?_ | (refine wlL (hm := hm) (hu := by first | exact undID | exact undLabel) (hi := by (try simp only [rowOf_size, idC_size]); first | exact sizeID | exact sizeLabel) (h := ?_); (try simp only [Act.put, k1, k2, k3]); (try simp only [← labV_eq, ← idV_eq])) | refine wlLC (hm := hm) (hu := by first | exact undStr | exact undByteI | exact undInt | exact undU64) (h := ?_) | (refine wlS (hm := hm) (hv := (by first | rfl | exact idV_eq _ | exact labV_eq _ _ | exact rectV_eq _ _ _ _)) (hi := by (try simp only [rowOf_size, idC_size]); first | exact sizeID | exact sizeLabel) (hs := by first | (simp only [rowOf_size, idC_size]; done) | rfl) (h1 := by first | rfl | exact idC_one _ | exact rowOf_one _ _ (fun _ _ => rfl) | (simp only [List.size_toArray, List.length_cons, List.all_toArray', List.all_cons, List.all_nil, Value.oneCell', Bool.and_true, Bool.and_self]; done) | (simp [Value.oneCell']; done)) (h := ?_); clear hm; intro w1 hm; (try simp only [rowOf_set, k1, k2, k3, Value.cells, Act.eval, k7, k8, k9, kA, Option.getD_some] at hm)) | (refine wlSC (hm := hm) (hi := by first | exact sizeStr | exact sizeByteI | exact sizeInt | exact sizeU64) (ho := by first | decide | (simp only [rowOf_size, idC_size]; omega) | (simp; done)) (h := ?_); clear hm; intro w1 hm; (try simp only [rowOf_set, k1, k2, k3, Value.cells, Act.eval, k7, k8, k9, kA, Option.getD_some] at hm)) | (refine wlA (hz := by first | exact zeroID | exact zeroLabel) (hm := hm) (h := ?_); clear hm; intro b1 w1 hm; (try simp only [rowOf_set, k1, k2, k3, Value.cells, Act.eval, k7, k8, k9, kA, Option.getD_some] at hm)) | (refine wl_box (by rfl) rfl (by first | exact idV_cells _ | exact labV_cells _ _ | exact rectV_cells _ _ _ _ | rfl) hm ?_; clear hm; intro b1 w1 hm) | (refine wl_build (by rfl) (built_zeroL) rfl ?_; (try simp only [Act.put, k1, k2, k3]); (try simp only [← labV_eq, ← idV_eq])) | (refine wl_build (by rfl) (built_lab1 _) rfl ?_; (try simp only [Act.put, k1, k2, k3]); (try simp only [← labV_eq, ← idV_eq])) | (go_at_call 53; refine (h1 _ (hm.heap (by with_reducible first | exact at0 | exact at1 | exact at2 | exact at3 | exact at4))).mono ?_; rintro e w1 ⟨rfl, hx⟩; replace hm := hm.callAt (by with_reducible first | exact at0 | exact at1 | exact at2 | exact at3 | exact at4) hx; clear hx; simp only [k2, k3] at hm) | (with_reducible first | refine stBs ?_ | refine stMs ?_ | refine stAp ?_ | refine stCo ?_)); (try simp only [k4, k5, k6, Act.put, k1, k2, k3]))
  refine bodyPost_ret (results_row_tmp (h := rfl) _ _ _ _ _ _ _ rfl (hm.heap (i := 2) rfl) undLabel rfl (by first | exact sizeLabel | (simp only [rowOf_size, idC_size]; exact sizeLabel))) rfl ?_
  exact ⟨rfl, hm.tail.tail.tail⟩
theorem Label_go (b : Nat) (s r : ByteArray) (l : Int) (k : Nat) (e : Int) (h1 : Takes 52 #[.pointer (some ⟨b, 0, none⟩), .func (.func 53) #[.pointer (some ⟨b, 0, none⟩)] #[]] b s (.tuple #[labV l k, .int .i64 e]) r) :
    Takes 26 #[.pointer (some ⟨b, 0, none⟩)] b s (.tuple #[labV l k, .int .i64 e]) r := by
  intro w hw
  go_enter Try.func26, Try.ntmps26
  have hm := Mem.start hw
  go_wp2_with ((first | refine wpList_skip (by rfl) ?_ | (refine wlL (hm := hm) (hu := by first | exact undID | exact undLabel) (hi := by (try simp only [rowOf_size, idC_size]); first | exact sizeID | exact sizeLabel) (h := ?_); (try simp only [Act.put, k1, k2, k3]); (try simp only [← labV_eq, ← idV_eq])) | refine wlLC (hm := hm) (hu := by first | exact undStr | exact undByteI | exact undInt | exact undU64) (h := ?_) | (refine wlS (hm := hm) (hv := (by first | rfl | exact idV_eq _ | exact labV_eq _ _ | exact rectV_eq _ _ _ _)) (hi := by (try simp only [rowOf_size, idC_size]); first | exact sizeID | exact sizeLabel) (hs := by first | (simp only [rowOf_size, idC_size]; done) | rfl) (h1 := by first | rfl | exact idC_one _ | exact rowOf_one _ _ (fun _ _ => rfl) | (simp only [List.size_toArray, List.length_cons, List.all_toArray', List.all_cons, List.all_nil, Value.oneCell', Bool.and_true, Bool.and_self]; done) | (simp [Value.oneCell']; done)) (h := ?_); clear hm; intro w1 hm; (try simp only [rowOf_set, k1, k2, k3, Value.cells, Act.eval, k7, k8, k9, kA, Option.getD_some] at hm)) | (refine wlSC (hm := hm) (hi := by first | exact sizeStr | exact sizeByteI | exact sizeInt | exact sizeU64) (ho := by first | decide | (simp only [rowOf_size, idC_size]; omega) | (simp; done)) (h := ?_); clear hm; intro w1 hm; (try simp only [rowOf_set, k1, k2, k3, Value.cells, Act.eval, k7, k8, k9, kA, Option.getD_some] at hm)) | (refine wlA (hz := by first | exact zeroID | exact zeroLabel) (hm := hm) (h := ?_); clear hm; intro b1 w1 hm; (try simp only [rowOf_set, k1, k2, k3, Value.cells, Act.eval, k7, k8, k9, kA, Option.getD_some] at hm)) | (refine wl_box (by rfl) rfl (by first | exact idV_cells _ | exact labV_cells _ _ | exact rectV_cells _ _ _ _ | rfl) hm ?_; clear hm; intro b1 w1 hm) | (refine wl_build (by rfl) (built_zeroL) rfl ?_; (try simp only [Act.put, k1, k2, k3]); (try simp only [← labV_eq, ← idV_eq])) | (refine wl_build (by rfl) (built_lab1 _) rfl ?_; (try simp only [Act.put, k1, k2, k3]); (try simp only [← labV_eq, ← idV_eq])) | (go_at_call 52; refine (h1 _ (hm.heap (by with_reducible first | exact at0 | exact at1 | exact at2 | exact at3 | exact at4))).mono ?_; rintro e w1 ⟨rfl, hx⟩; replace hm := hm.callAt (by with_reducible first | exact at0 | exact at1 | exact at2 | exact at3 | exact at4) hx; clear hx; simp only [k2, k3] at hm) | (with_reducible first | refine stBs ?_ | refine stMs ?_ | refine stAp ?_ | refine stCo ?_)); (try simp only [k4, k5, k6, Act.put, k1, k2, k3]))
  refine bodyPost_ret (results_row_tmp (h := rfl) _ _ _ _ _ _ _ rfl (hm.heap (i := 0) rfl) undLabel rfl (by first | exact sizeLabel | (simp only [rowOf_size, idC_size]; exact sizeLabel))) rfl ?_
  exact ⟨by rw [labV_eq l k] <;> rfl, hm.tail⟩
theorem Label_nil : Says 26 #[.pointer none] (.tuple #[labV 0 0, .int .i64 6]) := by
  intro w
  rw [labV_eq 0 0]
  have h1 := readL_nil (.func (.func 53) #[.pointer none] #[])
  rw [labV_eq 0 0] at h1
  go_enter Try.func26, Try.ntmps26
  have hm := Mem.refl w []
  go_wp2_with ((first | refine wpList_skip (by rfl) ?_ | (refine wlL (hm := hm) (hu := by first | exact undID | exact undLabel) (hi := by (try simp only [rowOf_size, idC_size]); first | exact sizeID | exact sizeLabel) (h := ?_); (try simp only [Act.put, k1, k2, k3]); (try simp only [← labV_eq, ← idV_eq])) | refine wlLC (hm := hm) (hu := by first | exact undStr | exact undByteI | exact undInt | exact undU64) (h := ?_) | (refine wlS (hm := hm) (hv := (by first | rfl | exact idV_eq _ | exact labV_eq _ _ | exact rectV_eq _ _ _ _)) (hi := by (try simp only [rowOf_size, idC_size]); first | exact sizeID | exact sizeLabel) (hs := by first | (simp only [rowOf_size, idC_size]; done) | rfl) (h1 := by first | rfl | exact idC_one _ | exact rowOf_one _ _ (fun _ _ => rfl) | (simp only [List.size_toArray, List.length_cons, List.all_toArray', List.all_cons, List.all_nil, Value.oneCell', Bool.and_true, Bool.and_self]; done) | (simp [Value.oneCell']; done)) (h := ?_); clear hm; intro w1 hm; (try simp only [rowOf_set, k1, k2, k3, Value.cells, Act.eval, k7, k8, k9, kA, Option.getD_some] at hm)) | (refine wlSC (hm := hm) (hi := by first | exact sizeStr | exact sizeByteI | exact sizeInt | exact sizeU64) (ho := by first | decide | (simp only [rowOf_size, idC_size]; omega) | (simp; done)) (h := ?_); clear hm; intro w1 hm; (try simp only [rowOf_set, k1, k2, k3, Value.cells, Act.eval, k7, k8, k9, kA, Option.getD_some] at hm)) | (refine wlA (hz := by first | exact zeroID | exact zeroLabel) (hm := hm) (h := ?_); clear hm; intro b1 w1 hm; (try simp only [rowOf_set, k1, k2, k3, Value.cells, Act.eval, k7, k8, k9, kA, Option.getD_some] at hm)) | (refine wl_box (by rfl) rfl (by first | exact idV_cells _ | exact labV_cells _ _ | exact rectV_cells _ _ _ _ | rfl) hm ?_; clear hm; intro b1 w1 hm) | (refine wl_build (by rfl) (built_zeroL) rfl ?_; (try simp only [Act.put, k1, k2, k3]); (try simp only [← labV_eq, ← idV_eq])) | (refine wl_build (by rfl) (built_lab1 _) rfl ?_; (try simp only [Act.put, k1, k2, k3]); (try simp only [← labV_eq, ← idV_eq])) | (go_at_call 52; refine (h1 _).mono ?_; rintro e w1 ⟨rfl, hx⟩; replace hm := hm.call hx; clear hx) | (go_at_call 48; refine (h1 _).mono ?_; rintro e w1 ⟨rfl, hx⟩; replace hm := hm.call hx; clear hx) | (with_reducible first | refine stBs ?_ | refine stMs ?_ | refine stAp ?_ | refine stCo ?_)); (try simp only [k4, k5, k6, Act.put, k1, k2, k3]))
  refine bodyPost_ret (results_row_tmp (h := rfl) _ _ _ _ _ _ _ rfl (hm.heap (i := 0) rfl) undLabel rfl (by first | exact sizeLabel | (simp only [rowOf_size, idC_size]; exact sizeLabel))) rfl ?_
  exact ⟨rfl, hm.ext⟩
theorem Number_nil : Says 24 #[.pointer none] (.tuple #[.int .u64 0, .int .i64 6]) := by
  intro w
  have h1 := readU_nil (.func (.func 49) #[.pointer none] #[])
  go_enter Try.func24, Try.ntmps24
  have hm := Mem.refl w []
  go_wp2_with ((first | refine wpList_skip (by rfl) ?_ | (refine wlL (hm := hm) (hu := by first | exact undID | exact undLabel) (hi := by (try simp only [rowOf_size, idC_size]); first | exact sizeID | exact sizeLabel) (h := ?_); (try simp only [Act.put, k1, k2, k3]); (try simp only [← labV_eq, ← idV_eq])) | refine wlLC (hm := hm) (hu := by first | exact undStr | exact undByteI | exact undInt | exact undU64) (h := ?_) | (refine wlS (hm := hm) (hv := (by first | rfl | exact idV_eq _ | exact labV_eq _ _ | exact rectV_eq _ _ _ _)) (hi := by (try simp only [rowOf_size, idC_size]); first | exact sizeID | exact sizeLabel) (hs := by first | (simp only [rowOf_size, idC_size]; done) | rfl) (h1 := by first | rfl | exact idC_one _ | exact rowOf_one _ _ (fun _ _ => rfl) | (simp only [List.size_toArray, List.length_cons, List.all_toArray', List.all_cons, List.all_nil, Value.oneCell', Bool.and_true, Bool.and_self]; done) | (simp [Value.oneCell']; done)) (h := ?_); clear hm; intro w1 hm; (try simp only [rowOf_set, k1, k2, k3, Value.cells, Act.eval, k7, k8, k9, kA, Option.getD_some] at hm)) | (refine wlSC (hm := hm) (hi := by first | exact sizeStr | exact sizeByteI | exact sizeInt | exact sizeU64) (ho := by first | decide | (simp only [rowOf_size, idC_size]; omega) | (simp; done)) (h := ?_); clear hm; intro w1 hm; (try simp only [rowOf_set, k1, k2, k3, Value.cells, Act.eval, k7, k8, k9, kA, Option.getD_some] at hm)) | (refine wlA (hz := by first | exact zeroID | exact zeroLabel) (hm := hm) (h := ?_); clear hm; intro b1 w1 hm; (try simp only [rowOf_set, k1, k2, k3, Value.cells, Act.eval, k7, k8, k9, kA, Option.getD_some] at hm)) | (refine wl_box (by rfl) rfl (by first | exact idV_cells _ | exact labV_cells _ _ | exact rectV_cells _ _ _ _ | rfl) hm ?_; clear hm; intro b1 w1 hm) | (refine wl_build (by rfl) (built_zeroL) rfl ?_; (try simp only [Act.put, k1, k2, k3]); (try simp only [← labV_eq, ← idV_eq])) | (refine wl_build (by rfl) (built_lab1 _) rfl ?_; (try simp only [Act.put, k1, k2, k3]); (try simp only [← labV_eq, ← idV_eq])) | (go_at_call 52; refine (h1 _).mono ?_; rintro e w1 ⟨rfl, hx⟩; replace hm := hm.call hx; clear hx) | (go_at_call 48; refine (h1 _).mono ?_; rintro e w1 ⟨rfl, hx⟩; replace hm := hm.call hx; clear hx) | (with_reducible first | refine stBs ?_ | refine stMs ?_ | refine stAp ?_ | refine stCo ?_)); (try simp only [k4, k5, k6, Act.put, k1, k2, k3]))
  go_ret2
  exact ⟨rfl, hm.ext⟩
/-- What Label reads: its error, or 0. -/
def labN (f : Nat → Nat) : Nat := (f 0 + 7) / 8
def labE (m : Nat) (f : Nat → Nat) : Nat := if m = 0 then 4 else if 64 < f 0 then 3 else if m - 1 < labN f then 4 else if isL (f 0 : Int) (labAcc (dropF 1 f) (labN f)) = true then 0 else 3
theorem label_any (b m : Nat) (f : Nat → Nat) (hf : ∀ j, f j < 256) : ∃ (l : Int) (k : Nat) (r : ByteArray), Takes 53 #[.pointer (some ⟨b, 0, none⟩)] b (bytesB m f) (.tuple #[labV l k, .int .i64 ((labE m f : Nat) : Int)]) r ∧
    (labE m f = 0 → l = (f 0 : Int) ∧ k = labAcc (dropF 1 f) (labN f) ∧ r = bytesB (m - 1 - labN f) (dropF (1 + labN f) f)) := by
  unfold labE
  by_cases h0 : m = 0
  · rw [if_pos h0]
    exact ⟨_, _, _, label_err1 b _ _ _ (take_more b _ m 1 (bytesB_size m f) (by omega)), fun h => by omega⟩
  · rw [if_neg h0]
    have k1 := takeB_ok b m 1 f (by omega)
    have hI0 : ∀ w, (Instr.index 9 (.string (bytesB 1 f)) (.int .i64 0)).run Try.prog w = .ok (.int .u8 ((f 0 : Nat) : Int)) w := run_indexS (k := 0) (bytesB_get (show 0 < 1 by omega)) (hf 0)
    by_cases h8 : 64 < f 0
    · rw [if_pos h8]
      exact ⟨_, _, _, label_form1 b _ _ _ (f 0) h8 (hf 0) hI0 k1, fun h => by omega⟩
    · rw [if_neg h8]
      by_cases hm : m - 1 < labN f
      · rw [if_pos hm]
        exact ⟨_, _, _, label_err2 b _ _ _ _ _ (f 0) (labN f) h8 rfl hI0 k1 (take_more b _ (m - 1) (labN f) (bytesB_size _ _) hm), fun h => by omega⟩
      · rw [if_neg hm]
        have k2 := takeB_ok b (m - 1) (labN f) (dropF 1 f) (by omega)
        have hcl : labN f ≤ 8 := by unfold labN; omega
        have hac := labAcc_ok (dropF 1 f) (fun k => hf _) (labN f) hcl
        have hg := label_go b _ _ _ _ _ (f 0) (labN f) (dropF 1 f) (fun k => hf _) h8 rfl (bytesB_size _ _) _ hI0 (fun k hk => run_indexS (bytesB_get hk) (hf _)) (is_c (f 0 : Int) _ hac.2) k1 k2
        have e2 : bytesB (m - 1 - labN f) (dropF (labN f) (dropF 1 f)) = bytesB (m - 1 - labN f) (dropF (1 + labN f) f) := bytesB_congr fun j _ => by unfold dropF; rw [Nat.add_assoc]
        rw [e2] at hg
        by_cases hq : isL (f 0 : Int) (labAcc (dropF 1 f) (labN f)) = true
        · rw [if_pos hq]
          rw [if_pos hq] at hg
          exact ⟨_, _, _, hg, fun _ => ⟨rfl, rfl, rfl⟩⟩
        · rw [if_neg hq]
          rw [if_neg hq] at hg
          exact ⟨_, _, _, hg, fun h => by omega⟩
theorem Label_ok (b m : Nat) (f : Nat → Nat) (hf : ∀ j, f j < 256) (h : labE m f = 0) : Takes 26 #[.pointer (some ⟨b, 0, none⟩)] b (bytesB m f) (.tuple #[labV (f 0 : Int) (labAcc (dropF 1 f) (labN f)), .int .i64 0]) (bytesB (m - 1 - labN f) (dropF (1 + labN f) f)) := by
  obtain ⟨l, k, r, h1, h2⟩ := label_any b m f hf
  obtain ⟨rfl, rfl, rfl⟩ := h2 h
  rw [h] at h1
  exact Label_go b _ _ _ _ _ (readL_ok b _ _ _ _ h1)
theorem Label_err (b m : Nat) (f : Nat → Nat) (hf : ∀ j, f j < 256) (h : labE m f ≠ 0) : Takes 26 #[.pointer (some ⟨b, 0, none⟩)] b (bytesB m f) (.tuple #[labV 0 0, .int .i64 ((labE m f : Nat) : Int)]) (bytesB m f) := by
  obtain ⟨l, k, r, h1, _⟩ := label_any b m f hf
  exact Label_go b _ _ _ _ _ (readL_err b _ _ _ _ _ (by omega) h1)
end Go.Proofs.Ytijkmbebfodhdaa
