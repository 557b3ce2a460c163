/-
  Wire: what is put behind bytes; the document's bytes.
-/
import Derived.Test.YtijkmbebfodhdaaWirA
import Derived.Test.YtijkmbebfodhdaaLabB
namespace Go.Proofs.Ytijkmbebfodhdaa
open Go.RowKit
set_option linter.unusedSimpArgs false
set_option linter.unusedVariables false
set_option maxHeartbeats 1000000
set_option maxRecDepth 20000
attribute [local irreducible] wpQuiet wpList wpAnyH Calls

theorem one_c (v : Nat) (hv : v < 2 ^ 64) : Says 46 #[.int .u64 (v : Int)] (.string (bytesB 1 fun _ => v % 256)) := by
  intro w
  obtain ⟨r, hr⟩ : ∃ r, v % 256 = r := ⟨_, rfl⟩
  have f1 : (v : Int) % 256 = (r : Int) := by omega
  have f2 : (v : Int).tmod 256 = (r : Int) := by rw [Int.tmod_eq_emod_of_nonneg (by omega)]; exact f1
  have f3 : IntKind.u64.wrap (r : Int) = (r : Int) := wrap_u64 (by omega) (by omega)
  have f4 : IntKind.u8.wrap (r : Int) = (r : Int) := wrap_u8 (by omega) (by omega)
  rw [hr]
  clear hr hv
  go_enter Try.func46, Try.ntmps46
  have hm := Mem.refl w []
  go_wp2_with ((first | refine wpList_skip (by rfl) ?_ | (refine wlL (hm := hm) (hu := by first | exact undID | exact undLabel) (hi := by (try simp only [rowOf_size, idC_size]); first | exact sizeID | exact sizeLabel) (h := ?_); (try simp only [Act.put, k1, k2, k3]); (try simp only [← labV_eq, ← idV_eq])) | refine wlLC (hm := hm) (hv := by first | exact C1.out | rfl) (hu := by first | exact undByteI | exact undInt | exact undU64) (h := ?_) | (refine wlS (hm := hm) (hv := (by first | rfl | exact idV_eq _ | exact labV_eq _ _ | exact rectV_eq _ _ _ _)) (hi := by (try simp only [rowOf_size, idC_size]); first | exact sizeID | exact sizeLabel) (hs := by first | (simp only [rowOf_size, idC_size]; done) | rfl) (h1 := by first | rfl | exact idC_one _ | exact rowOf_one _ _ (fun _ _ => rfl) | (simp only [List.size_toArray, List.length_cons, List.all_toArray', List.all_cons, List.all_nil, Value.oneCell', Bool.and_true, Bool.and_self]; done) | (simp [Value.oneCell']; done)) (h := ?_); clear hm; intro w1 hm; (try simp only [rowOf_set, k1, k2, k3, Value.cells, Act.eval, k7, k8, k9, kA, Option.getD_some] at hm)) | (refine wlSC (hm := hm) (hi := by first | exact sizeByteI | exact sizeInt | exact sizeU64) (ho := by first | decide | (simp only [rowOf_size, idC_size]; omega) | (simp; done)) (h := ?_); clear hm; intro w1 hm; (try simp only [rowOf_set, k1, k2, k3, Value.cells, Act.eval, k7, k8, k9, kA, Option.getD_some] at hm)) | (refine wlA (hz := by first | exact zeroID | exact zeroLabel) (hm := hm) (h := ?_); clear hm; intro b1 w1 hm; (try simp only [rowOf_set, k1, k2, k3, Value.cells, Act.eval, k7, k8, k9, kA, Option.getD_some] at hm)) | (refine wl_box (by rfl) rfl (by first | exact idV_cells _ | exact labV_cells _ _ | exact rectV_cells _ _ _ _ | rfl) hm ?_; clear hm; intro b1 w1 hm) | (with_reducible first | refine stBs ?_ | refine stMs ?_ | refine stAp ?_ | refine stCo ?_ | (show wpList _ _ _ (⟨_, .convert 71 9 _, _, _, _, _⟩ :: _) _ _; refine Stop.mk ?_))); (try simp only [k4, k5, k6, Act.put, k1, k2, k3]))
  refine Stop.go (wl_buildSlice (ps := [(0, .int .u8 (r : Int))]) (cells := #[.int .u8 (r : Int)]) (by rfl) hm elByteI (by decide) (by decide) (by simp [Act.eval]) (fill_one _ _ rfl) ?_)
  clear hm; intro gn w6 hm; simp only [Act.put, k1, k2, k3]
  go_wp2_with ((first | refine wpList_skip (by rfl) ?_ | (refine wlL (hm := hm) (hu := by first | exact undID | exact undLabel) (hi := by (try simp only [rowOf_size, idC_size]); first | exact sizeID | exact sizeLabel) (h := ?_); (try simp only [Act.put, k1, k2, k3]); (try simp only [← labV_eq, ← idV_eq])) | refine wlLC (hm := hm) (hv := by first | exact C1.out | rfl) (hu := by first | exact undByteI | exact undInt | exact undU64) (h := ?_) | (refine wlS (hm := hm) (hv := (by first | rfl | exact idV_eq _ | exact labV_eq _ _ | exact rectV_eq _ _ _ _)) (hi := by (try simp only [rowOf_size, idC_size]); first | exact sizeID | exact sizeLabel) (hs := by first | (simp only [rowOf_size, idC_size]; done) | rfl) (h1 := by first | rfl | exact idC_one _ | exact rowOf_one _ _ (fun _ _ => rfl) | (simp only [List.size_toArray, List.length_cons, List.all_toArray', List.all_cons, List.all_nil, Value.oneCell', Bool.and_true, Bool.and_self]; done) | (simp [Value.oneCell']; done)) (h := ?_); clear hm; intro w1 hm; (try simp only [rowOf_set, k1, k2, k3, Value.cells, Act.eval, k7, k8, k9, kA, Option.getD_some] at hm)) | (refine wlSC (hm := hm) (hi := by first | exact sizeByteI | exact sizeInt | exact sizeU64) (ho := by first | decide | (simp only [rowOf_size, idC_size]; omega) | (simp; done)) (h := ?_); clear hm; intro w1 hm; (try simp only [rowOf_set, k1, k2, k3, Value.cells, Act.eval, k7, k8, k9, kA, Option.getD_some] at hm)) | (refine wlA (hz := by first | exact zeroID | exact zeroLabel) (hm := hm) (h := ?_); clear hm; intro b1 w1 hm; (try simp only [rowOf_set, k1, k2, k3, Value.cells, Act.eval, k7, k8, k9, kA, Option.getD_some] at hm)) | (refine wl_box (by rfl) rfl (by first | exact idV_cells _ | exact labV_cells _ _ | exact rectV_cells _ _ _ _ | rfl) hm ?_; clear hm; intro b1 w1 hm) | (with_reducible first | refine stBs ?_ | refine stMs ?_ | refine stAp ?_ | refine stCo ?_ | (show wpList _ _ _ (⟨_, .convert 71 9 _, _, _, _, _⟩ :: _) _ _; refine Stop.mk ?_))); (try simp only [k4, k5, k6, Act.put, k1, k2, k3]))
  have hrs := run_toString (P := Try.prog) undBytesI undByteI undStrI hm (i := 0) (off := 0) (n := 1) (cap := 1) rfl (fun _ => r) (fun j hj => by have h0 : j = 0 := Nat.lt_one_iff.1 hj; subst h0; rfl)
  refine Stop.go ?_
  go_wp2
  go_ret
  exact ⟨rfl, hm.ext⟩
/-- The bytes of a number, from the highest. -/
def digF (v k j : Nat) : Nat := v / 256 ^ (k - 1 - j) % 256
theorem dig_push (v k : Nat) : bytesB 1 (fun _ => v / 256 ^ k % 256) ++ bytesB k (digF v k) = bytesB (k + 1) (digF v (k + 1)) := by
  rw [bytesB_append, Nat.add_comm 1 k]
  refine bytesB_congr fun j hj => ?_
  unfold digF
  split
  · next h => rw [show k + 1 - 1 - j = k from by omega]
  · next h => rw [show k - 1 - (j - 1) = k + 1 - 1 - j from by omega]
theorem num_whole (v : Nat) (hv : v < 2 ^ 64) : bytesB 1 (fun _ => nB v % 256) ++ bytesB (nB v) (digF v (nB v)) = bytesB (nB v + 1) (numF v) := by
  have := nB_8 v hv
  rw [bytesB_append, Nat.add_comm 1 (nB v)]
  refine bytesB_congr fun j hj => ?_
  unfold digF numF
  by_cases h : j = 0
  · rw [if_pos (by omega), if_pos h]; omega
  · rw [if_neg (by omega), if_neg h, show nB v - 1 - (j - 1) = nB v - j from by omega]
theorem refNumber_c (v : Nat) (hv : v < 2 ^ 64) : Says 20 #[.int .u64 (v : Int)] (.string (bytesB (nB v + 1) (numF v))) := by
  intro w
  rw [← num_whole v hv]
  have hn8 := nB_8 v hv
  have HE := hid (show ∀ k, k ≤ nB v → v / 256 ^ k = 0 → k = nB v from fun k hk h => by
    by_cases h0 : 0 < v
    · have h1 := nB_le v h0
      have h2 : v < 256 ^ k := by
        have := Nat.div_eq_zero_iff.1 h
        have hp : 0 < 256 ^ k := Nat.pow_pos (by omega)
        omega
      have h3 := (Nat.pow_lt_pow_iff_right (show 1 < 256 by omega)).1 (Nat.lt_of_le_of_lt h1 h2)
      omega
    · have : nB v = 0 := by unfold nB; rw [if_pos (by omega)]
      omega)
  have HL := hid (show ∀ k, k ≤ nB v → 0 < v / 256 ^ k → k < nB v from fun k hk h => by
    have h1 := nB_lt v
    rcases Nat.lt_or_ge k (nB v) with h2 | h2
    · exact h2
    · obtain rfl : k = nB v := by omega
      rw [Nat.div_eq_of_lt h1] at h
      omega)
  have HP := hid (dig_push v)
  have HV := hid hv
  have HN := hid hn8
  have HD := hid (show ∀ k, v / 256 ^ k < 2 ^ 64 from fun k => Nat.lt_of_le_of_lt (Nat.div_le_self _ _) hv)
  have HS := hid (show ∀ k, v / 256 ^ k / 256 = v / 256 ^ (k + 1) from fun k => by rw [Nat.div_div_eq_div_mul, ← Nat.pow_succ])
  have e0 : bytesB 0 (digF v 0) = { data := #[] } := by unfold bytesB; rfl
  obtain ⟨n, hn⟩ : ∃ n, nB v = n := ⟨_, rfl⟩
  rw [hn] at HE HL HN ⊢
  clear hn hn8 hv
  have H0 := hid e0
  clear e0
  have hv0 : v = v / 256 ^ 0 := by rw [Nat.pow_zero, Nat.div_one]
  have HZ := hid hv0
  clear hv0
  go_enter Try.func20, Try.ntmps20
  have hm := Mem.refl w []
  go_wp2_with ((first | refine wpList_skip (by rfl) ?_ | (refine wlL (hm := hm) (hu := by first | exact undID | exact undLabel) (hi := by (try simp only [rowOf_size, idC_size]); first | exact sizeID | exact sizeLabel) (h := ?_); (try simp only [Act.put, k1, k2, k3]); (try simp only [← labV_eq, ← idV_eq])) | refine wlLC (hm := hm) (hv := by first | exact C1.out | rfl) (hu := by first | exact undByteI | exact undInt | exact undU64) (h := ?_) | (refine wlS (hm := hm) (hv := (by first | rfl | exact idV_eq _ | exact labV_eq _ _ | exact rectV_eq _ _ _ _)) (hi := by (try simp only [rowOf_size, idC_size]); first | exact sizeID | exact sizeLabel) (hs := by first | (simp only [rowOf_size, idC_size]; done) | rfl) (h1 := by first | rfl | exact idC_one _ | exact rowOf_one _ _ (fun _ _ => rfl) | (simp only [List.size_toArray, List.length_cons, List.all_toArray', List.all_cons, List.all_nil, Value.oneCell', Bool.and_true, Bool.and_self]; done) | (simp [Value.oneCell']; done)) (h := ?_); clear hm; intro w1 hm; (try simp only [rowOf_set, k1, k2, k3, Value.cells, Act.eval, k7, k8, k9, kA, Option.getD_some] at hm)) | (refine wlSC (hm := hm) (hi := by first | exact sizeByteI | exact sizeInt | exact sizeU64) (ho := by first | decide | (simp only [rowOf_size, idC_size]; omega) | (simp; done)) (h := ?_); clear hm; intro w1 hm; (try simp only [rowOf_set, k1, k2, k3, Value.cells, Act.eval, k7, k8, k9, kA, Option.getD_some] at hm)) | (refine wlA (hz := by first | exact zeroID | exact zeroLabel) (hm := hm) (h := ?_); clear hm; intro b1 w1 hm; (try simp only [rowOf_set, k1, k2, k3, Value.cells, Act.eval, k7, k8, k9, kA, Option.getD_some] at hm)) | (refine wl_box (by rfl) rfl (by first | exact idV_cells _ | exact labV_cells _ _ | exact rectV_cells _ _ _ _ | rfl) hm ?_; clear hm; intro b1 w1 hm) | (go_at_call 46; refine (ho _).mono ?_; rintro e w1 ⟨rfl, hx⟩; replace hm := hm.call hx; clear hx) | (with_reducible first | refine stBs ?_ | refine stMs ?_ | refine stAp ?_ | refine stCo ?_ | (show wpList _ _ _ (⟨_, .convert 71 9 _, _, _, _, _⟩ :: _) _ _; refine Stop.mk ?_))); (try simp only [k4, k5, k6, Act.put, k1, k2, k3]))
  go_loopw [0, 3] (fun vv vo wr => ∃ k x : Nat, k ≤ n ∧ Hid (v / 256 ^ k = x) ∧ vv = .int .u64 (x : Int) ∧ vo = .string (bytesB k (digF v k)) ∧ Mem w [] [] wr)
    (fun vv _ _ => (intOf vv).toNat)
  case atStart => exact ⟨0, v, by omega, hid HZ.out.symm, rfl, by rw [H0.out], hm⟩
  case round =>
    clear hm
    obtain ⟨k, x, hk, HX, rfl, rfl, hm⟩ := hrel
    by_cases hx : 0 < x
    · have hkn := HL.out k hk (by rw [HX.out]; exact hx)
      have hxl := HD.out k
      rw [HX.out] at hxl
      have ho := one_c x hxl
      have hpush := HP.out k
      rw [HX.out] at hpush
      have hsz : ¬ 9223372036854775807 < (bytesB 1 fun _ => x % 256).size + (bytesB k (digF v k)).size := by rw [bytesB_size, bytesB_size]; have := HN.out; omega
      obtain ⟨y, hy⟩ : ∃ y, x / 256 = y := ⟨_, rfl⟩
      have f1 : (x : Int) / 256 = (y : Int) := by omega
      have f2 : (x : Int).tdiv 256 = (y : Int) := by rw [Int.tdiv_eq_ediv_of_nonneg (by omega)]; exact f1
      have f3 : IntKind.u64.wrap (y : Int) = (y : Int) := wrap_u64 (by omega) (by omega)
      have HY := hid (show v / 256 ^ (k + 1) = y from by rw [← HS.out, HX.out, hy])
      have HK := hid (show y < x from by omega)
      have HKN := hid hkn
      obtain ⟨A, hA⟩ : ∃ A, (bytesB 1 fun _ => x % 256) = A := ⟨_, rfl⟩
      obtain ⟨B, hB⟩ : ∃ B, bytesB k (digF v k) = B := ⟨_, rfl⟩
      rw [hA] at ho hpush hsz
      rw [hB] at hpush hsz ⊢
      have HU := hid hpush
      clear hA hB hy hpush hkn hxl hk
      go_wp2_with ((first | refine wpList_skip (by rfl) ?_ | (refine wlL (hm := hm) (hu := by first | exact undID | exact undLabel) (hi := by (try simp only [rowOf_size, idC_size]); first | exact sizeID | exact sizeLabel) (h := ?_); (try simp only [Act.put, k1, k2, k3]); (try simp only [← labV_eq, ← idV_eq])) | refine wlLC (hm := hm) (hv := by first | exact C1.out | rfl) (hu := by first | exact undByteI | exact undInt | exact undU64) (h := ?_) | (refine wlS (hm := hm) (hv := (by first | rfl | exact idV_eq _ | exact labV_eq _ _ | exact rectV_eq _ _ _ _)) (hi := by (try simp only [rowOf_size, idC_size]); first | exact sizeID | exact sizeLabel) (hs := by first | (simp only [rowOf_size, idC_size]; done) | rfl) (h1 := by first | rfl | exact idC_one _ | exact rowOf_one _ _ (fun _ _ => rfl) | (simp only [List.size_toArray, List.length_cons, List.all_toArray', List.all_cons, List.all_nil, Value.oneCell', Bool.and_true, Bool.and_self]; done) | (simp [Value.oneCell']; done)) (h := ?_); clear hm; intro w1 hm; (try simp only [rowOf_set, k1, k2, k3, Value.cells, Act.eval, k7, k8, k9, kA, Option.getD_some] at hm)) | (refine wlSC (hm := hm) (hi := by first | exact sizeByteI | exact sizeInt | exact sizeU64) (ho := by first | decide | (simp only [rowOf_size, idC_size]; omega) | (simp; done)) (h := ?_); clear hm; intro w1 hm; (try simp only [rowOf_set, k1, k2, k3, Value.cells, Act.eval, k7, k8, k9, kA, Option.getD_some] at hm)) | (refine wlA (hz := by first | exact zeroID | exact zeroLabel) (hm := hm) (h := ?_); clear hm; intro b1 w1 hm; (try simp only [rowOf_set, k1, k2, k3, Value.cells, Act.eval, k7, k8, k9, kA, Option.getD_some] at hm)) | (refine wl_box (by rfl) rfl (by first | exact idV_cells _ | exact labV_cells _ _ | exact rectV_cells _ _ _ _ | rfl) hm ?_; clear hm; intro b1 w1 hm) | (go_at_call 46; refine (ho _).mono ?_; rintro e w1 ⟨rfl, hx⟩; replace hm := hm.call hx; clear hx) | (with_reducible first | refine stBs ?_ | refine stMs ?_ | refine stAp ?_ | refine stCo ?_ | (show wpList _ _ _ (⟨_, .convert 71 9 _, _, _, _, _⟩ :: _) _ _; refine Stop.mk ?_))); (try simp only [k4, k5, k6, Act.put, k1, k2, k3]))
      go_roundw
      case rel => exact ⟨k + 1, y, by have := HKN.out; omega, HY, rfl, by rw [HU.out], hm⟩
      case measure => (have := HK.out; simp [intOf]; try omega)
    · obtain rfl : x = 0 := by omega
      obtain rfl := HE.out k hk HX.out
      have ho := one_c k (by have := HN.out; omega)
      have hsz := bytesB_size k (digF v k)
      have hsz2 := bytesB_size 1 (fun _ => k % 256)
      obtain ⟨A, hA⟩ : ∃ A, (bytesB 1 fun _ => k % 256) = A := ⟨_, rfl⟩
      obtain ⟨B, hB⟩ : ∃ B, bytesB k (digF v k) = B := ⟨_, rfl⟩
      rw [hA] at ho hsz2
      rw [hB] at hsz ⊢
      have HA := hid hA
      have HB := hid hB
      have f4 : IntKind.u64.wrap (k : Int) = (k : Int) := wrap_u64 (by omega) (by have := HN.out; omega)
      have hs3 : ¬ 9223372036854775807 < 1 + k := by have := HN.out; omega
      clear hA hB hk
      go_wp2_with ((first | refine wpList_skip (by rfl) ?_ | (refine wlL (hm := hm) (hu := by first | exact undID | exact undLabel) (hi := by (try simp only [rowOf_size, idC_size]); first | exact sizeID | exact sizeLabel) (h := ?_); (try simp only [Act.put, k1, k2, k3]); (try simp only [← labV_eq, ← idV_eq])) | refine wlLC (hm := hm) (hv := by first | exact C1.out | rfl) (hu := by first | exact undByteI | exact undInt | exact undU64) (h := ?_) | (refine wlS (hm := hm) (hv := (by first | rfl | exact idV_eq _ | exact labV_eq _ _ | exact rectV_eq _ _ _ _)) (hi := by (try simp only [rowOf_size, idC_size]); first | exact sizeID | exact sizeLabel) (hs := by first | (simp only [rowOf_size, idC_size]; done) | rfl) (h1 := by first | rfl | exact idC_one _ | exact rowOf_one _ _ (fun _ _ => rfl) | (simp only [List.size_toArray, List.length_cons, List.all_toArray', List.all_cons, List.all_nil, Value.oneCell', Bool.and_true, Bool.and_self]; done) | (simp [Value.oneCell']; done)) (h := ?_); clear hm; intro w1 hm; (try simp only [rowOf_set, k1, k2, k3, Value.cells, Act.eval, k7, k8, k9, kA, Option.getD_some] at hm)) | (refine wlSC (hm := hm) (hi := by first | exact sizeByteI | exact sizeInt | exact sizeU64) (ho := by first | decide | (simp only [rowOf_size, idC_size]; omega) | (simp; done)) (h := ?_); clear hm; intro w1 hm; (try simp only [rowOf_set, k1, k2, k3, Value.cells, Act.eval, k7, k8, k9, kA, Option.getD_some] at hm)) | (refine wlA (hz := by first | exact zeroID | exact zeroLabel) (hm := hm) (h := ?_); clear hm; intro b1 w1 hm; (try simp only [rowOf_set, k1, k2, k3, Value.cells, Act.eval, k7, k8, k9, kA, Option.getD_some] at hm)) | (refine wl_box (by rfl) rfl (by first | exact idV_cells _ | exact labV_cells _ _ | exact rectV_cells _ _ _ _ | rfl) hm ?_; clear hm; intro b1 w1 hm) | (go_at_call 46; refine (ho _).mono ?_; rintro e w1 ⟨rfl, hx⟩; replace hm := hm.call hx; clear hx) | (with_reducible first | refine stBs ?_ | refine stMs ?_ | refine stAp ?_ | refine stCo ?_ | (show wpList _ _ _ (⟨_, .convert 71 9 _, _, _, _, _⟩ :: _) _ _; refine Stop.mk ?_))); (try simp only [k4, k5, k6, Act.put, k1, k2, k3]))
      go_ret
      exact ⟨by rw [HA.out, HB.out] <;> rfl, hm.ext⟩
theorem refText_c5 (s : ByteArray) (hs : s.size < 2 ^ 62) : Says 15 #[.string s] (.string (bytesB (nB s.size + 1) (numF s.size) ++ s)) := by
  intro w
  have hn := refNumber_c s.size (by omega)
  have h8 := nB_8 s.size (by omega)
  have hz := bytesB_size (nB s.size + 1) (numF s.size)
  obtain ⟨A, hA⟩ : ∃ A, bytesB (nB s.size + 1) (numF s.size) = A := ⟨_, rfl⟩
  rw [hA] at hn hz ⊢
  obtain ⟨m, hm1⟩ : ∃ m, nB s.size + 1 = m := ⟨_, rfl⟩
  rw [hm1] at hz
  obtain ⟨k, hk⟩ : ∃ k, s.size = k := ⟨_, rfl⟩
  rw [hk] at hs h8 hm1 hn
  have f4 : IntKind.u64.wrap (k : Int) = (k : Int) := wrap_u64 (by omega) (by omega)
  have hs3 : ¬ 9223372036854775807 < m + k := by omega
  clear hA hm1 h8
  go_enter Try.func15, Try.ntmps15
  have hm := Mem.refl w []
  go_wp2_with ((first | refine wpList_skip (by rfl) ?_ | (refine wlL (hm := hm) (hu := by first | exact undID | exact undLabel) (hi := by (try simp only [rowOf_size, idC_size]); first | exact sizeID | exact sizeLabel) (h := ?_); (try simp only [Act.put, k1, k2, k3]); (try simp only [← labV_eq, ← idV_eq])) | refine wlLC (hm := hm) (hv := by first | exact C1.out | rfl) (hu := by first | exact undByteI | exact undInt | exact undU64) (h := ?_) | (refine wlS (hm := hm) (hv := (by first | rfl | exact idV_eq _ | exact labV_eq _ _ | exact rectV_eq _ _ _ _)) (hi := by (try simp only [rowOf_size, idC_size]); first | exact sizeID | exact sizeLabel) (hs := by first | (simp only [rowOf_size, idC_size]; done) | rfl) (h1 := by first | rfl | exact idC_one _ | exact rowOf_one _ _ (fun _ _ => rfl) | (simp only [List.size_toArray, List.length_cons, List.all_toArray', List.all_cons, List.all_nil, Value.oneCell', Bool.and_true, Bool.and_self]; done) | (simp [Value.oneCell']; done)) (h := ?_); clear hm; intro w1 hm; (try simp only [rowOf_set, k1, k2, k3, Value.cells, Act.eval, k7, k8, k9, kA, Option.getD_some] at hm)) | (refine wlSC (hm := hm) (hi := by first | exact sizeByteI | exact sizeInt | exact sizeU64) (ho := by first | decide | (simp only [rowOf_size, idC_size]; omega) | (simp; done)) (h := ?_); clear hm; intro w1 hm; (try simp only [rowOf_set, k1, k2, k3, Value.cells, Act.eval, k7, k8, k9, kA, Option.getD_some] at hm)) | (refine wlA (hz := by first | exact zeroID | exact zeroLabel) (hm := hm) (h := ?_); clear hm; intro b1 w1 hm; (try simp only [rowOf_set, k1, k2, k3, Value.cells, Act.eval, k7, k8, k9, kA, Option.getD_some] at hm)) | (refine wl_box (by rfl) rfl (by first | exact idV_cells _ | exact labV_cells _ _ | exact rectV_cells _ _ _ _ | rfl) hm ?_; clear hm; intro b1 w1 hm) | (go_at_call 20; refine (hn _).mono ?_; rintro e w1 ⟨rfl, hx⟩; replace hm := hm.call hx; clear hx) | (with_reducible first | refine stBs ?_ | refine stMs ?_ | refine stAp ?_ | refine stCo ?_ | (show wpList _ _ _ (⟨_, .convert 71 9 _, _, _, _, _⟩ :: _) _ _; refine Stop.mk ?_))); (try simp only [k4, k5, k6, Act.put, k1, k2, k3]))
  go_ret
  exact ⟨rfl, hm.ext⟩
theorem putNumber_go (b : ByteArray) (v : Int) (F : Nat → Nat) (m : Nat) (hb : b.size + m < 2 ^ 62) (hc : ∀ w, Calls Try.prog 47 #[.int .u64 v] w (BytesIn F m w)) :
    Says 19 #[.string b, .int .u64 v] (.string (b ++ bytesB m F)) := by
  intro w
  have hz := bytesB_size m F
  have HB := hid hb
  go_enter Try.func19, Try.ntmps19
  have hm := Mem.refl w []
  go_wp2_with (with_reducible first | refine stAl ?_ | refine stBo ?_ | refine stLo ?_ | refine stSo ?_ | refine stBu ?_ | refine stBs ?_ | refine stMs ?_ | refine stAp ?_ | refine stCo ?_ | (show wpList _ _ _ (⟨_, .convert 71 9 _, _, _, _, _⟩ :: _) _ _; refine Stop.mk ?_))
  refine (hc _).mono ?_
  rintro e w2 ⟨g, cap, cur, rfl, hr, hx⟩
  replace hm := Mem.callOwn (B := []) hm hx
  simp only [List.append_nil] at hm
  clear hx hc hb
  go_wp2_with ((first | refine wpList_skip (by rfl) ?_ | (refine wlL (hm := hm) (hu := by first | exact undID | exact undLabel) (hi := by (try simp only [rowOf_size, idC_size]); first | exact sizeID | exact sizeLabel) (h := ?_); (try simp only [Act.put, k1, k2, k3]); (try simp only [← labV_eq, ← idV_eq])) | refine wlLC (hm := hm) (hv := by first | exact C1.out | rfl) (hu := by first | exact undByteI | exact undInt | exact undU64) (h := ?_) | (refine wlS (hm := hm) (hv := (by first | rfl | exact idV_eq _ | exact labV_eq _ _ | exact rectV_eq _ _ _ _)) (hi := by (try simp only [rowOf_size, idC_size]); first | exact sizeID | exact sizeLabel) (hs := by first | (simp only [rowOf_size, idC_size]; done) | rfl) (h1 := by first | rfl | exact idC_one _ | exact rowOf_one _ _ (fun _ _ => rfl) | (simp only [List.size_toArray, List.length_cons, List.all_toArray', List.all_cons, List.all_nil, Value.oneCell', Bool.and_true, Bool.and_self]; done) | (simp [Value.oneCell']; done)) (h := ?_); clear hm; intro w1 hm; (try simp only [rowOf_set, k1, k2, k3, Value.cells, Act.eval, k7, k8, k9, kA, Option.getD_some] at hm)) | (refine wlSC (hm := hm) (hi := by first | exact sizeByteI | exact sizeInt | exact sizeU64) (ho := by first | decide | (simp only [rowOf_size, idC_size]; omega) | (simp; done)) (h := ?_); clear hm; intro w1 hm; (try simp only [rowOf_set, k1, k2, k3, Value.cells, Act.eval, k7, k8, k9, kA, Option.getD_some] at hm)) | (refine wlA (hz := by first | exact zeroID | exact zeroLabel) (hm := hm) (h := ?_); clear hm; intro b1 w1 hm; (try simp only [rowOf_set, k1, k2, k3, Value.cells, Act.eval, k7, k8, k9, kA, Option.getD_some] at hm)) | (refine wl_box (by rfl) rfl (by first | exact idV_cells _ | exact labV_cells _ _ | exact rectV_cells _ _ _ _ | rfl) hm ?_; clear hm; intro b1 w1 hm) | (with_reducible first | refine stBs ?_ | refine stMs ?_ | refine stAp ?_ | refine stCo ?_ | (show wpList _ _ _ (⟨_, .convert 71 9 _, _, _, _, _⟩ :: _) _ _; refine Stop.mk ?_))); (try simp only [k4, k5, k6, Act.put, k1, k2, k3]))
  have hrs := run_toString (P := Try.prog) undBytesI undByteI undStrI hm (i := 0) (off := 0) (n := m) (cap := m) rfl F (fun j hj => by rw [Nat.zero_add]; exact hr.2.2.2 j hj)
  have hs3 : ¬ 9223372036854775807 < b.size + m := by have := HB.out; omega
  clear hr
  refine Stop.go ?_
  go_wp2
  go_ret
  exact ⟨rfl, hm.ext⟩
theorem putNumber_c (b : ByteArray) (v : Nat) (hv : v < 2 ^ 64) (hb : b.size < 2 ^ 61) : Says 19 #[.string b, .int .u64 (v : Int)] (.string (b ++ bytesB (nB v + 1) (numF v))) :=
  putNumber_go b v _ _ (by have := nB_8 v hv; omega) (wireNumber_c v hv)
theorem putText_long (b s : ByteArray) (h : 4096 < s.size) : Says 13 #[.string b, .string s] (.tuple #[.string { data := #[] }, .int .i64 2]) := by
  intro w
  go_enter Try.func13, Try.ntmps13
  have hm := Mem.refl w []
  go_wp2_with ((first | refine wpList_skip (by rfl) ?_ | (refine wlL (hm := hm) (hu := by first | exact undID | exact undLabel) (hi := by (try simp only [rowOf_size, idC_size]); first | exact sizeID | exact sizeLabel) (h := ?_); (try simp only [Act.put, k1, k2, k3]); (try simp only [← labV_eq, ← idV_eq])) | refine wlLC (hm := hm) (hv := by first | exact C1.out | rfl) (hu := by first | exact undByteI | exact undInt | exact undU64) (h := ?_) | (refine wlS (hm := hm) (hv := (by first | rfl | exact idV_eq _ | exact labV_eq _ _ | exact rectV_eq _ _ _ _)) (hi := by (try simp only [rowOf_size, idC_size]); first | exact sizeID | exact sizeLabel) (hs := by first | (simp only [rowOf_size, idC_size]; done) | rfl) (h1 := by first | rfl | exact idC_one _ | exact rowOf_one _ _ (fun _ _ => rfl) | (simp only [List.size_toArray, List.length_cons, List.all_toArray', List.all_cons, List.all_nil, Value.oneCell', Bool.and_true, Bool.and_self]; done) | (simp [Value.oneCell']; done)) (h := ?_); clear hm; intro w1 hm; (try simp only [rowOf_set, k1, k2, k3, Value.cells, Act.eval, k7, k8, k9, kA, Option.getD_some] at hm)) | (refine wlSC (hm := hm) (hi := by first | exact sizeByteI | exact sizeInt | exact sizeU64) (ho := by first | decide | (simp only [rowOf_size, idC_size]; omega) | (simp; done)) (h := ?_); clear hm; intro w1 hm; (try simp only [rowOf_set, k1, k2, k3, Value.cells, Act.eval, k7, k8, k9, kA, Option.getD_some] at hm)) | (refine wlA (hz := by first | exact zeroID | exact zeroLabel) (hm := hm) (h := ?_); clear hm; intro b1 w1 hm; (try simp only [rowOf_set, k1, k2, k3, Value.cells, Act.eval, k7, k8, k9, kA, Option.getD_some] at hm)) | (refine wl_box (by rfl) rfl (by first | exact idV_cells _ | exact labV_cells _ _ | exact rectV_cells _ _ _ _ | rfl) hm ?_; clear hm; intro b1 w1 hm) | (with_reducible first | refine stBs ?_ | refine stMs ?_ | refine stAp ?_ | refine stCo ?_ | (show wpList _ _ _ (⟨_, .convert 71 9 _, _, _, _, _⟩ :: _) _ _; refine Stop.mk ?_))); (try simp only [k4, k5, k6, Act.put, k1, k2, k3]))
  go_ret2
  exact ⟨rfl, hm.ext⟩
theorem putText_go (b s t : ByteArray) (k : Nat) (hk : s.size = k) (h : k ≤ 4096) (ht : t.size < 2 ^ 62) (hn : Says 19 #[.string b, .int .u64 (k : Int)] (.string t)) : Says 13 #[.string b, .string s] (.tuple #[.string (t ++ s), .int .i64 0]) := by
  intro w
  have f4 : IntKind.u64.wrap (k : Int) = (k : Int) := wrap_u64 (by omega) (by omega)
  have h0 : ¬ 4096 < k := by omega
  have hs3 : ¬ 9223372036854775807 < t.size + k := by omega
  clear h ht
  go_enter Try.func13, Try.ntmps13
  have hm := Mem.refl w []
  go_wp2_with ((first | refine wpList_skip (by rfl) ?_ | (refine wlL (hm := hm) (hu := by first | exact undID | exact undLabel) (hi := by (try simp only [rowOf_size, idC_size]); first | exact sizeID | exact sizeLabel) (h := ?_); (try simp only [Act.put, k1, k2, k3]); (try simp only [← labV_eq, ← idV_eq])) | refine wlLC (hm := hm) (hv := by first | exact C1.out | rfl) (hu := by first | exact undByteI | exact undInt | exact undU64) (h := ?_) | (refine wlS (hm := hm) (hv := (by first | rfl | exact idV_eq _ | exact labV_eq _ _ | exact rectV_eq _ _ _ _)) (hi := by (try simp only [rowOf_size, idC_size]); first | exact sizeID | exact sizeLabel) (hs := by first | (simp only [rowOf_size, idC_size]; done) | rfl) (h1 := by first | rfl | exact idC_one _ | exact rowOf_one _ _ (fun _ _ => rfl) | (simp only [List.size_toArray, List.length_cons, List.all_toArray', List.all_cons, List.all_nil, Value.oneCell', Bool.and_true, Bool.and_self]; done) | (simp [Value.oneCell']; done)) (h := ?_); clear hm; intro w1 hm; (try simp only [rowOf_set, k1, k2, k3, Value.cells, Act.eval, k7, k8, k9, kA, Option.getD_some] at hm)) | (refine wlSC (hm := hm) (hi := by first | exact sizeByteI | exact sizeInt | exact sizeU64) (ho := by first | decide | (simp only [rowOf_size, idC_size]; omega) | (simp; done)) (h := ?_); clear hm; intro w1 hm; (try simp only [rowOf_set, k1, k2, k3, Value.cells, Act.eval, k7, k8, k9, kA, Option.getD_some] at hm)) | (refine wlA (hz := by first | exact zeroID | exact zeroLabel) (hm := hm) (h := ?_); clear hm; intro b1 w1 hm; (try simp only [rowOf_set, k1, k2, k3, Value.cells, Act.eval, k7, k8, k9, kA, Option.getD_some] at hm)) | (refine wl_box (by rfl) rfl (by first | exact idV_cells _ | exact labV_cells _ _ | exact rectV_cells _ _ _ _ | rfl) hm ?_; clear hm; intro b1 w1 hm) | (go_at_call 19; refine (hn _).mono ?_; rintro e w1 ⟨rfl, hx⟩; replace hm := hm.call hx; clear hx) | (with_reducible first | refine stBs ?_ | refine stMs ?_ | refine stAp ?_ | refine stCo ?_ | (show wpList _ _ _ (⟨_, .convert 71 9 _, _, _, _, _⟩ :: _) _ _; refine Stop.mk ?_))); (try simp only [k4, k5, k6, Act.put, k1, k2, k3]))
  go_ret2
  exact ⟨rfl, hm.ext⟩
theorem putText_c (b s : ByteArray) (h : s.size ≤ 4096) (hb : b.size < 2 ^ 61) : Says 13 #[.string b, .string s] (.tuple #[.string (b ++ (bytesB (nB s.size + 1) (numF s.size) ++ s)), .int .i64 0]) := by
  rw [← ByteArray.append_assoc]
  exact putText_go b s _ s.size rfl h (by rw [ByteArray.size_append, bytesB_size]; have := nB_8 s.size (by omega); omega) (putNumber_c b s.size (by omega) hb)
theorem putPlace_c (b : ByteArray) (a : Nat) (hb : b.size < 2 ^ 61) : Says 21 #[.string b, idV a] (.string (b ++ bytesB 20 (dig a))) := by
  intro w
  have hz := bytesB_size 20 (dig a)
  have hs3 : ¬ 9223372036854775807 < b.size + 20 := by omega
  clear hb
  go_enter Try.func21, Try.ntmps21
  have hm := Mem.refl w []
  go_wp2_with (with_reducible first | refine stAl ?_ | refine stBo ?_ | refine stLo ?_ | refine stSo ?_ | refine stBu ?_ | refine stBs ?_ | refine stMs ?_ | refine stAp ?_ | refine stCo ?_ | (show wpList _ _ _ (⟨_, .convert 71 9 _, _, _, _, _⟩ :: _) _ _; refine Stop.mk ?_)); refine Stop.go (wl_box (by rfl) rfl (idV_cells a) hm ?_); clear hm; intro b1 w1 hm; simp only [Act.put, k1, k2, k3]; (try simp only [rowOf_set, k1, k2, k3, Value.cells, Act.eval, k7, k8, k9, kA, Option.getD_some] at hm)
  go_wp2_with ((first | refine wpList_skip (by rfl) ?_ | (refine wlL (hm := hm) (hu := by first | exact undID | exact undLabel) (hi := by (try simp only [rowOf_size, idC_size]); first | exact sizeID | exact sizeLabel) (h := ?_); (try simp only [Act.put, k1, k2, k3]); (try simp only [← labV_eq, ← idV_eq])) | refine wlLC (hm := hm) (hv := by first | exact C1.out | rfl) (hu := by first | exact undByteI | exact undInt | exact undU64) (h := ?_) | (refine wlS (hm := hm) (hv := (by first | rfl | exact idV_eq _ | exact labV_eq _ _ | exact rectV_eq _ _ _ _)) (hi := by (try simp only [rowOf_size, idC_size]); first | exact sizeID | exact sizeLabel) (hs := by first | (simp only [rowOf_size, idC_size]; done) | rfl) (h1 := by first | rfl | exact idC_one _ | exact rowOf_one _ _ (fun _ _ => rfl) | (simp only [List.size_toArray, List.length_cons, List.all_toArray', List.all_cons, List.all_nil, Value.oneCell', Bool.and_true, Bool.and_self]; done) | (simp [Value.oneCell']; done)) (h := ?_); clear hm; intro w1 hm; (try simp only [rowOf_set, k1, k2, k3, Value.cells, Act.eval, k7, k8, k9, kA, Option.getD_some] at hm)) | (refine wlSC (hm := hm) (hi := by first | exact sizeByteI | exact sizeInt | exact sizeU64) (ho := by first | decide | (simp only [rowOf_size, idC_size]; omega) | (simp; done)) (h := ?_); clear hm; intro w1 hm; (try simp only [rowOf_set, k1, k2, k3, Value.cells, Act.eval, k7, k8, k9, kA, Option.getD_some] at hm)) | (refine wlA (hz := by first | exact zeroID | exact zeroLabel) (hm := hm) (h := ?_); clear hm; intro b1 w1 hm; (try simp only [rowOf_set, k1, k2, k3, Value.cells, Act.eval, k7, k8, k9, kA, Option.getD_some] at hm)) | (refine wl_box (by rfl) rfl (by first | exact idV_cells _ | exact labV_cells _ _ | exact rectV_cells _ _ _ _ | rfl) hm ?_; clear hm; intro b1 w1 hm) | (with_reducible first | refine stBs ?_ | refine stMs ?_ | refine stAp ?_ | refine stCo ?_ | (show wpList _ _ _ (⟨_, .convert 71 9 _, _, _, _, _⟩ :: _) _ _; refine Stop.mk ?_))); (try simp only [k4, k5, k6, Act.put, k1, k2, k3]))
  have hrs := run_toString (P := Try.prog) undBytesI undByteI undStrI hm (i := 0) (off := 0) (n := 20) (cap := 20) rfl (dig a) (fun j hj => by rw [Nat.zero_add]; exact rowOf_get _ _ j hj)
  refine Stop.go ?_
  go_wp2
  go_ret
  exact ⟨rfl, hm.ext⟩
theorem refPlace_c5 (a : Nat) : Says 22 #[idV a] (.string (bytesB 20 (dig a))) := by
  intro w
  have H0 := hid (show bytesB 0 (dig a) = { data := #[] } from by unfold bytesB; rfl)
  go_enter Try.func22, Try.ntmps22
  have hm := Mem.refl w []
  go_wp2_with (with_reducible first | refine stAl ?_ | refine stBo ?_ | refine stLo ?_ | refine stSo ?_ | refine stBu ?_ | refine stBs ?_ | refine stMs ?_ | refine stAp ?_ | refine stCo ?_ | (show wpList _ _ _ (⟨_, .convert 71 9 _, _, _, _, _⟩ :: _) _ _; refine Stop.mk ?_)); refine Stop.go (wl_box (by rfl) rfl (idV_cells a) hm ?_); clear hm; intro b1 w1 hm; simp only [Act.put, k1, k2, k3]; (try simp only [rowOf_set, k1, k2, k3, Value.cells, Act.eval, k7, k8, k9, kA, Option.getD_some] at hm)
  go_wp2_with ((first | refine wpList_skip (by rfl) ?_ | (refine wlL (hm := hm) (hu := by first | exact undID | exact undLabel) (hi := by (try simp only [rowOf_size, idC_size]); first | exact sizeID | exact sizeLabel) (h := ?_); (try simp only [Act.put, k1, k2, k3]); (try simp only [← labV_eq, ← idV_eq])) | refine wlLC (hm := hm) (hv := by first | exact C1.out | rfl) (hu := by first | exact undByteI | exact undInt | exact undU64) (h := ?_) | (refine wlS (hm := hm) (hv := (by first | rfl | exact idV_eq _ | exact labV_eq _ _ | exact rectV_eq _ _ _ _)) (hi := by (try simp only [rowOf_size, idC_size]); first | exact sizeID | exact sizeLabel) (hs := by first | (simp only [rowOf_size, idC_size]; done) | rfl) (h1 := by first | rfl | exact idC_one _ | exact rowOf_one _ _ (fun _ _ => rfl) | (simp only [List.size_toArray, List.length_cons, List.all_toArray', List.all_cons, List.all_nil, Value.oneCell', Bool.and_true, Bool.and_self]; done) | (simp [Value.oneCell']; done)) (h := ?_); clear hm; intro w1 hm; (try simp only [rowOf_set, k1, k2, k3, Value.cells, Act.eval, k7, k8, k9, kA, Option.getD_some] at hm)) | (refine wlSC (hm := hm) (hi := by first | exact sizeByteI | exact sizeInt | exact sizeU64) (ho := by first | decide | (simp only [rowOf_size, idC_size]; omega) | (simp; done)) (h := ?_); clear hm; intro w1 hm; (try simp only [rowOf_set, k1, k2, k3, Value.cells, Act.eval, k7, k8, k9, kA, Option.getD_some] at hm)) | (refine wlA (hz := by first | exact zeroID | exact zeroLabel) (hm := hm) (h := ?_); clear hm; intro b1 w1 hm; (try simp only [rowOf_set, k1, k2, k3, Value.cells, Act.eval, k7, k8, k9, kA, Option.getD_some] at hm)) | (refine wl_box (by rfl) rfl (by first | exact idV_cells _ | exact labV_cells _ _ | exact rectV_cells _ _ _ _ | rfl) hm ?_; clear hm; intro b1 w1 hm) | (go_at_call 46; refine (ho _).mono ?_; rintro e w1 ⟨rfl, hx⟩; replace hm := hm.call hx; clear hx) | (with_reducible first | refine stBs ?_ | refine stMs ?_ | refine stAp ?_ | refine stCo ?_ | (show wpList _ _ _ (⟨_, .convert 71 9 _, _, _, _, _⟩ :: _) _ _; refine Stop.mk ?_))); (try simp only [k4, k5, k6, Act.put, k1, k2, k3]))
  go_loopw [3, 4] (fun vo vi wr => ∃ i : Nat, i ≤ 20 ∧ vi = .int .i64 (i : Int) ∧ vo = .string (bytesB i (dig a)) ∧ Mem w [] [(b1, .cells (idC a) 24 (0, 0))] wr)
    (fun _ vi _ => (20 - intOf vi).toNat)
  case atStart => exact ⟨0, by omega, rfl, by rw [H0.out], hm⟩
  case round =>
    clear hm
    obtain ⟨i, hi, rfl, rfl, hm⟩ := hrel
    by_cases h20 : i < 20
    · have e1 : (i : Int) < 20 := by omega
      have e2 : (0 : Int) ≤ (i : Int) := by omega
      have g1 : IntKind.i64.wrap ((i : Int) + 1) = (i : Int) + 1 := wrap_i64 (by omega) (by omega)
      have C1 := hid (show (idC a)[i]? = some (.int .u8 ((dig a i : Nat) : Int)) from rowOf_get _ _ i h20)
      have hdl := dig_lt a i
      have HU := hid (show bytesB i (dig a) ++ (bytesB 1 fun _ => dig a i % 256) = bytesB (i + 1) (dig a) from by
        rw [bytesB_append]
        refine bytesB_congr fun j hj => ?_
        split
        · rfl
        · rw [show i = j from by omega, Nat.mod_eq_of_lt (dig_lt a j)])
      have ho := one_c (dig a i) (by omega)
      have hs1 := bytesB_size i (dig a)
      have hs2 := bytesB_size 1 (fun _ => dig a i % 256)
      obtain ⟨x, hx⟩ : ∃ x, dig a i = x := ⟨_, rfl⟩
      rw [hx] at C1 hdl HU ho hs2
      have g2 : IntKind.u64.wrap (x : Int) = (x : Int) := wrap_u64 (by omega) (by omega)
      have hs3 : ¬ 9223372036854775807 < i + 1 := by omega
      obtain ⟨A, hA⟩ : ∃ A, bytesB i (dig a) = A := ⟨_, rfl⟩
      obtain ⟨B, hB⟩ : ∃ B, (bytesB 1 fun _ => x % 256) = B := ⟨_, rfl⟩
      rw [hA] at HU hs1 ⊢
      rw [hB] at HU hs2 ho
      clear hA hB hx hdl
      go_wp2_with ((first | refine wpList_skip (by rfl) ?_ | (refine wlL (hm := hm) (hu := by first | exact undID | exact undLabel) (hi := by (try simp only [rowOf_size, idC_size]); first | exact sizeID | exact sizeLabel) (h := ?_); (try simp only [Act.put, k1, k2, k3]); (try simp only [← labV_eq, ← idV_eq])) | refine wlLC (hm := hm) (hv := by first | exact C1.out | rfl) (hu := by first | exact undByteI | exact undInt | exact undU64) (h := ?_) | (refine wlS (hm := hm) (hv := (by first | rfl | exact idV_eq _ | exact labV_eq _ _ | exact rectV_eq _ _ _ _)) (hi := by (try simp only [rowOf_size, idC_size]); first | exact sizeID | exact sizeLabel) (hs := by first | (simp only [rowOf_size, idC_size]; done) | rfl) (h1 := by first | rfl | exact idC_one _ | exact rowOf_one _ _ (fun _ _ => rfl) | (simp only [List.size_toArray, List.length_cons, List.all_toArray', List.all_cons, List.all_nil, Value.oneCell', Bool.and_true, Bool.and_self]; done) | (simp [Value.oneCell']; done)) (h := ?_); clear hm; intro w1 hm; (try simp only [rowOf_set, k1, k2, k3, Value.cells, Act.eval, k7, k8, k9, kA, Option.getD_some] at hm)) | (refine wlSC (hm := hm) (hi := by first | exact sizeByteI | exact sizeInt | exact sizeU64) (ho := by first | decide | (simp only [rowOf_size, idC_size]; omega) | (simp; done)) (h := ?_); clear hm; intro w1 hm; (try simp only [rowOf_set, k1, k2, k3, Value.cells, Act.eval, k7, k8, k9, kA, Option.getD_some] at hm)) | (refine wlA (hz := by first | exact zeroID | exact zeroLabel) (hm := hm) (h := ?_); clear hm; intro b1 w1 hm; (try simp only [rowOf_set, k1, k2, k3, Value.cells, Act.eval, k7, k8, k9, kA, Option.getD_some] at hm)) | (refine wl_box (by rfl) rfl (by first | exact idV_cells _ | exact labV_cells _ _ | exact rectV_cells _ _ _ _ | rfl) hm ?_; clear hm; intro b1 w1 hm) | (go_at_call 46; refine (ho _).mono ?_; rintro e w1 ⟨rfl, hx⟩; replace hm := hm.call hx; clear hx) | (with_reducible first | refine stBs ?_ | refine stMs ?_ | refine stAp ?_ | refine stCo ?_ | (show wpList _ _ _ (⟨_, .convert 71 9 _, _, _, _, _⟩ :: _) _ _; refine Stop.mk ?_))); (try simp only [k4, k5, k6, Act.put, k1, k2, k3]))
      go_roundw
      case rel => exact ⟨i + 1, by omega, by go_num, by rw [HU.out], hm⟩
      case measure => (simp [intOf]; try omega)
    · obtain rfl : i = 20 := by omega
      go_wp2_with ((first | refine wpList_skip (by rfl) ?_ | (refine wlL (hm := hm) (hu := by first | exact undID | exact undLabel) (hi := by (try simp only [rowOf_size, idC_size]); first | exact sizeID | exact sizeLabel) (h := ?_); (try simp only [Act.put, k1, k2, k3]); (try simp only [← labV_eq, ← idV_eq])) | refine wlLC (hm := hm) (hv := by first | exact C1.out | rfl) (hu := by first | exact undByteI | exact undInt | exact undU64) (h := ?_) | (refine wlS (hm := hm) (hv := (by first | rfl | exact idV_eq _ | exact labV_eq _ _ | exact rectV_eq _ _ _ _)) (hi := by (try simp only [rowOf_size, idC_size]); first | exact sizeID | exact sizeLabel) (hs := by first | (simp only [rowOf_size, idC_size]; done) | rfl) (h1 := by first | rfl | exact idC_one _ | exact rowOf_one _ _ (fun _ _ => rfl) | (simp only [List.size_toArray, List.length_cons, List.all_toArray', List.all_cons, List.all_nil, Value.oneCell', Bool.and_true, Bool.and_self]; done) | (simp [Value.oneCell']; done)) (h := ?_); clear hm; intro w1 hm; (try simp only [rowOf_set, k1, k2, k3, Value.cells, Act.eval, k7, k8, k9, kA, Option.getD_some] at hm)) | (refine wlSC (hm := hm) (hi := by first | exact sizeByteI | exact sizeInt | exact sizeU64) (ho := by first | decide | (simp only [rowOf_size, idC_size]; omega) | (simp; done)) (h := ?_); clear hm; intro w1 hm; (try simp only [rowOf_set, k1, k2, k3, Value.cells, Act.eval, k7, k8, k9, kA, Option.getD_some] at hm)) | (refine wlA (hz := by first | exact zeroID | exact zeroLabel) (hm := hm) (h := ?_); clear hm; intro b1 w1 hm; (try simp only [rowOf_set, k1, k2, k3, Value.cells, Act.eval, k7, k8, k9, kA, Option.getD_some] at hm)) | (refine wl_box (by rfl) rfl (by first | exact idV_cells _ | exact labV_cells _ _ | exact rectV_cells _ _ _ _ | rfl) hm ?_; clear hm; intro b1 w1 hm) | (go_at_call 46; refine (ho _).mono ?_; rintro e w1 ⟨rfl, hx⟩; replace hm := hm.call hx; clear hx) | (with_reducible first | refine stBs ?_ | refine stMs ?_ | refine stAp ?_ | refine stCo ?_ | (show wpList _ _ _ (⟨_, .convert 71 9 _, _, _, _, _⟩ :: _) _ _; refine Stop.mk ?_))); (try simp only [k4, k5, k6, Act.put, k1, k2, k3]))
      go_ret
      exact ⟨rfl, hm.ext⟩
end Go.Proofs.Ytijkmbebfodhdaa
