/-
  Wire: a text, a place that is read.
-/
import Derived.Test.YtijkmbebfodhdaaWirF
import Derived.Test.YtijkmbebfodhdaaMem8
namespace Go.Proofs.Ytijkmbebfodhdaa
open Go.RowKit
set_option linter.unusedSimpArgs false
set_option linter.unusedVariables false
set_option maxHeartbeats 1000000
set_option maxRecDepth 20000
attribute [local irreducible] wpQuiet wpList wpAnyH Calls

theorem text_err (b : Nat) (s r : ByteArray) (v e : Int) (he : e ≠ 0) (h1 : Takes 49 #[.pointer (some ⟨b, 0, none⟩)] b s (.tuple #[.int .u64 v, .int .i64 e]) r) :
    Takes 51 #[.pointer (some ⟨b, 0, none⟩)] b s (.tuple #[.string { data := #[] }, .int .i64 e]) r := by
  intro w hw
  have he1 : (e != 0) = true := by simp [bne, he]
  have h2 := h1
  go_enter Try.func51, Try.ntmps51
  have hm := Mem.start hw
  go_wp2_with ((first | refine wpList_skip (by rfl) ?_ | (refine wlL (hm := hm) (hu := by first | exact undID | exact undLabel) (hi := by (try simp only [rowOf_size, idC_size]); first | exact sizeID | exact sizeLabel) (h := ?_); (try simp only [Act.put, k1, k2, k3]); (try simp only [← labV_eq, ← idV_eq])) | refine wlLC (hm := hm) (hu := by first | exact undStr | exact undByteI | exact undInt | exact undU64) (h := ?_) | (refine wlS (hm := hm) (hv := (by first | rfl | exact idV_eq _ | exact labV_eq _ _ | exact rectV_eq _ _ _ _)) (hi := by (try simp only [rowOf_size, idC_size]); first | exact sizeID | exact sizeLabel) (hs := by first | (simp only [rowOf_size, idC_size]; done) | rfl) (h1 := by first | rfl | exact idC_one _ | exact rowOf_one _ _ (fun _ _ => rfl) | (simp only [List.size_toArray, List.length_cons, List.all_toArray', List.all_cons, List.all_nil, Value.oneCell', Bool.and_true, Bool.and_self]; done) | (simp [Value.oneCell']; done)) (h := ?_); clear hm; intro w1 hm; (try simp only [rowOf_set, k1, k2, k3, Value.cells, Act.eval, k7, k8, k9, kA, Option.getD_some] at hm)) | (refine wlSC (hm := hm) (hi := by first | exact sizeStr | exact sizeByteI | exact sizeInt | exact sizeU64) (ho := by first | decide | (simp only [rowOf_size, idC_size]; omega) | (simp; done)) (h := ?_); clear hm; intro w1 hm; (try simp only [rowOf_set, k1, k2, k3, Value.cells, Act.eval, k7, k8, k9, kA, Option.getD_some] at hm)) | (refine wlA (hz := by first | exact zeroID | exact zeroLabel) (hm := hm) (h := ?_); clear hm; intro b1 w1 hm; (try simp only [rowOf_set, k1, k2, k3, Value.cells, Act.eval, k7, k8, k9, kA, Option.getD_some] at hm)) | (refine wl_box (by rfl) rfl (by first | exact idV_cells _ | exact labV_cells _ _ | exact rectV_cells _ _ _ _ | rfl) hm ?_; clear hm; intro b1 w1 hm) | (go_at_call 49; refine (h1 _ (hm.heap (by with_reducible first | exact at0 | exact at1 | exact at2 | exact at3 | exact at4))).mono ?_; rintro e w1 ⟨rfl, hx⟩; replace hm := hm.callAt (by with_reducible first | exact at0 | exact at1 | exact at2 | exact at3 | exact at4) hx; clear hx; simp only [k2, k3] at hm) | (go_at_call 84; refine (h2 _ (hm.heap (by with_reducible first | exact at0 | exact at1 | exact at2 | exact at3 | exact at4))).mono ?_; rintro e w1 ⟨rfl, hx⟩; replace hm := hm.callAt (by with_reducible first | exact at0 | exact at1 | exact at2 | exact at3 | exact at4) hx; clear hx; simp only [k2, k3] at hm) | (with_reducible first | refine stBs ?_ | refine stMs ?_ | refine stAp ?_ | refine stCo ?_)); (try simp only [k4, k5, k6, Act.put, k1, k2, k3]))
  go_ret2
  exact ⟨rfl, hm⟩
theorem text_form (b : Nat) (s r : ByteArray) (v : Nat) (hv : 4096 < v) (h1 : Takes 49 #[.pointer (some ⟨b, 0, none⟩)] b s (.tuple #[.int .u64 (v : Int), .int .i64 0]) r) :
    Takes 51 #[.pointer (some ⟨b, 0, none⟩)] b s (.tuple #[.string { data := #[] }, .int .i64 3]) r := by
  intro w hw
  have h2 := h1
  go_enter Try.func51, Try.ntmps51
  have hm := Mem.start hw
  go_wp2_with ((first | refine wpList_skip (by rfl) ?_ | (refine wlL (hm := hm) (hu := by first | exact undID | exact undLabel) (hi := by (try simp only [rowOf_size, idC_size]); first | exact sizeID | exact sizeLabel) (h := ?_); (try simp only [Act.put, k1, k2, k3]); (try simp only [← labV_eq, ← idV_eq])) | refine wlLC (hm := hm) (hu := by first | exact undStr | exact undByteI | exact undInt | exact undU64) (h := ?_) | (refine wlS (hm := hm) (hv := (by first | rfl | exact idV_eq _ | exact labV_eq _ _ | exact rectV_eq _ _ _ _)) (hi := by (try simp only [rowOf_size, idC_size]); first | exact sizeID | exact sizeLabel) (hs := by first | (simp only [rowOf_size, idC_size]; done) | rfl) (h1 := by first | rfl | exact idC_one _ | exact rowOf_one _ _ (fun _ _ => rfl) | (simp only [List.size_toArray, List.length_cons, List.all_toArray', List.all_cons, List.all_nil, Value.oneCell', Bool.and_true, Bool.and_self]; done) | (simp [Value.oneCell']; done)) (h := ?_); clear hm; intro w1 hm; (try simp only [rowOf_set, k1, k2, k3, Value.cells, Act.eval, k7, k8, k9, kA, Option.getD_some] at hm)) | (refine wlSC (hm := hm) (hi := by first | exact sizeStr | exact sizeByteI | exact sizeInt | exact sizeU64) (ho := by first | decide | (simp only [rowOf_size, idC_size]; omega) | (simp; done)) (h := ?_); clear hm; intro w1 hm; (try simp only [rowOf_set, k1, k2, k3, Value.cells, Act.eval, k7, k8, k9, kA, Option.getD_some] at hm)) | (refine wlA (hz := by first | exact zeroID | exact zeroLabel) (hm := hm) (h := ?_); clear hm; intro b1 w1 hm; (try simp only [rowOf_set, k1, k2, k3, Value.cells, Act.eval, k7, k8, k9, kA, Option.getD_some] at hm)) | (refine wl_box (by rfl) rfl (by first | exact idV_cells _ | exact labV_cells _ _ | exact rectV_cells _ _ _ _ | rfl) hm ?_; clear hm; intro b1 w1 hm) | (go_at_call 49; refine (h1 _ (hm.heap (by with_reducible first | exact at0 | exact at1 | exact at2 | exact at3 | exact at4))).mono ?_; rintro e w1 ⟨rfl, hx⟩; replace hm := hm.callAt (by with_reducible first | exact at0 | exact at1 | exact at2 | exact at3 | exact at4) hx; clear hx; simp only [k2, k3] at hm) | (go_at_call 84; refine (h2 _ (hm.heap (by with_reducible first | exact at0 | exact at1 | exact at2 | exact at3 | exact at4))).mono ?_; rintro e w1 ⟨rfl, hx⟩; replace hm := hm.callAt (by with_reducible first | exact at0 | exact at1 | exact at2 | exact at3 | exact at4) hx; clear hx; simp only [k2, k3] at hm) | (with_reducible first | refine stBs ?_ | refine stMs ?_ | refine stAp ?_ | refine stCo ?_)); (try simp only [k4, k5, k6, Act.put, k1, k2, k3]))
  go_ret2
  exact ⟨rfl, hm⟩
theorem text_go (b : Nat) (s r r' t : ByteArray) (v : Nat) (e : Int) (hv : ¬ 4096 < v) (h1 : Takes 49 #[.pointer (some ⟨b, 0, none⟩)] b s (.tuple #[.int .u64 (v : Int), .int .i64 0]) r)
    (h2 : Takes 84 #[.pointer (some ⟨b, 0, none⟩), .int .i64 (v : Int)] b r (.tuple #[.string t, .int .i64 e]) r') :
    Takes 51 #[.pointer (some ⟨b, 0, none⟩)] b s (.tuple #[.string t, .int .i64 e]) r' := by
  intro w hw
  have f1 : IntKind.i64.wrap (v : Int) = (v : Int) := wrap_i64 (by omega) (by omega)
  go_enter Try.func51, Try.ntmps51
  have hm := Mem.start hw
  go_wp2_with ((first | refine wpList_skip (by rfl) ?_ | (refine wlL (hm := hm) (hu := by first | exact undID | exact undLabel) (hi := by (try simp only [rowOf_size, idC_size]); first | exact sizeID | exact sizeLabel) (h := ?_); (try simp only [Act.put, k1, k2, k3]); (try simp only [← labV_eq, ← idV_eq])) | refine wlLC (hm := hm) (hu := by first | exact undStr | exact undByteI | exact undInt | exact undU64) (h := ?_) | (refine wlS (hm := hm) (hv := (by first | rfl | exact idV_eq _ | exact labV_eq _ _ | exact rectV_eq _ _ _ _)) (hi := by (try simp only [rowOf_size, idC_size]); first | exact sizeID | exact sizeLabel) (hs := by first | (simp only [rowOf_size, idC_size]; done) | rfl) (h1 := by first | rfl | exact idC_one _ | exact rowOf_one _ _ (fun _ _ => rfl) | (simp only [List.size_toArray, List.length_cons, List.all_toArray', List.all_cons, List.all_nil, Value.oneCell', Bool.and_true, Bool.and_self]; done) | (simp [Value.oneCell']; done)) (h := ?_); clear hm; intro w1 hm; (try simp only [rowOf_set, k1, k2, k3, Value.cells, Act.eval, k7, k8, k9, kA, Option.getD_some] at hm)) | (refine wlSC (hm := hm) (hi := by first | exact sizeStr | exact sizeByteI | exact sizeInt | exact sizeU64) (ho := by first | decide | (simp only [rowOf_size, idC_size]; omega) | (simp; done)) (h := ?_); clear hm; intro w1 hm; (try simp only [rowOf_set, k1, k2, k3, Value.cells, Act.eval, k7, k8, k9, kA, Option.getD_some] at hm)) | (refine wlA (hz := by first | exact zeroID | exact zeroLabel) (hm := hm) (h := ?_); clear hm; intro b1 w1 hm; (try simp only [rowOf_set, k1, k2, k3, Value.cells, Act.eval, k7, k8, k9, kA, Option.getD_some] at hm)) | (refine wl_box (by rfl) rfl (by first | exact idV_cells _ | exact labV_cells _ _ | exact rectV_cells _ _ _ _ | rfl) hm ?_; clear hm; intro b1 w1 hm) | (go_at_call 49; refine (h1 _ (hm.heap (by with_reducible first | exact at0 | exact at1 | exact at2 | exact at3 | exact at4))).mono ?_; rintro e w1 ⟨rfl, hx⟩; replace hm := hm.callAt (by with_reducible first | exact at0 | exact at1 | exact at2 | exact at3 | exact at4) hx; clear hx; simp only [k2, k3] at hm) | (go_at_call 84; refine (h2 _ (hm.heap (by with_reducible first | exact at0 | exact at1 | exact at2 | exact at3 | exact at4))).mono ?_; rintro e w1 ⟨rfl, hx⟩; replace hm := hm.callAt (by with_reducible first | exact at0 | exact at1 | exact at2 | exact at3 | exact at4) hx; clear hx; simp only [k2, k3] at hm) | (with_reducible first | refine stBs ?_ | refine stMs ?_ | refine stAp ?_ | refine stCo ?_)); (try simp only [k4, k5, k6, Act.put, k1, k2, k3]))
  go_ret2
  exact ⟨rfl, hm⟩
theorem readS_nil (g : Value) : Says 50 #[.pointer none, g] (.tuple #[.string { data := #[] }, .int .i64 6]) := by
  intro w
  go_enter Try.func50, Try.ntmps50
  have hm := Mem.refl w []
  go_wp2
  go_ret2
  exact ⟨rfl, hm.ext⟩
theorem readS_ok (b : Nat) (s r t : ByteArray) (h1 : Takes 51 #[.pointer (some ⟨b, 0, none⟩)] b s (.tuple #[.string t, .int .i64 0]) r) :
    Takes 50 #[.pointer (some ⟨b, 0, none⟩), .func (.func 51) #[.pointer (some ⟨b, 0, none⟩)] #[]] b s (.tuple #[.string t, .int .i64 0]) r := by
  intro w hw
  go_enter Try.func50, Try.ntmps50
  have hm := Mem.start hw
  go_wp2_with ((first | refine wpList_skip (by rfl) ?_ | (refine wlL (hm := hm) (hu := by first | exact undID | exact undLabel) (hi := by (try simp only [rowOf_size, idC_size]); first | exact sizeID | exact sizeLabel) (h := ?_); (try simp only [Act.put, k1, k2, k3]); (try simp only [← labV_eq, ← idV_eq])) | refine wlLC (hm := hm) (hu := by first | exact undStr | exact undByteI | exact undInt | exact undU64) (h := ?_) | (refine wlS (hm := hm) (hv := (by first | rfl | exact idV_eq _ | exact labV_eq _ _ | exact rectV_eq _ _ _ _)) (hi := by (try simp only [rowOf_size, idC_size]); first | exact sizeID | exact sizeLabel) (hs := by first | (simp only [rowOf_size, idC_size]; done) | rfl) (h1 := by first | rfl | exact idC_one _ | exact rowOf_one _ _ (fun _ _ => rfl) | (simp only [List.size_toArray, List.length_cons, List.all_toArray', List.all_cons, List.all_nil, Value.oneCell', Bool.and_true, Bool.and_self]; done) | (simp [Value.oneCell']; done)) (h := ?_); clear hm; intro w1 hm; (try simp only [rowOf_set, k1, k2, k3, Value.cells, Act.eval, k7, k8, k9, kA, Option.getD_some] at hm)) | (refine wlSC (hm := hm) (hi := by first | exact sizeStr | exact sizeByteI | exact sizeInt | exact sizeU64) (ho := by first | decide | (simp only [rowOf_size, idC_size]; omega) | (simp; done)) (h := ?_); clear hm; intro w1 hm; (try simp only [rowOf_set, k1, k2, k3, Value.cells, Act.eval, k7, k8, k9, kA, Option.getD_some] at hm)) | (refine wlA (hz := by first | exact zeroID | exact zeroLabel) (hm := hm) (h := ?_); clear hm; intro b1 w1 hm; (try simp only [rowOf_set, k1, k2, k3, Value.cells, Act.eval, k7, k8, k9, kA, Option.getD_some] at hm)) | (refine wl_box (by rfl) rfl (by first | exact idV_cells _ | exact labV_cells _ _ | exact rectV_cells _ _ _ _ | rfl) hm ?_; clear hm; intro b1 w1 hm) | (go_at_call 51; refine (h1 _ (hm.heap (by with_reducible first | exact at0 | exact at1 | exact at2 | exact at3 | exact at4))).mono ?_; rintro e w1 ⟨rfl, hx⟩; replace hm := hm.callAt (by with_reducible first | exact at0 | exact at1 | exact at2 | exact at3 | exact at4) hx; clear hx; simp only [k2, k3] at hm) | (go_at_call 56; refine (h1 _ (hm.heap (by with_reducible first | exact at0 | exact at1 | exact at2 | exact at3 | exact at4))).mono ?_; rintro e w1 ⟨rfl, hx⟩; replace hm := hm.callAt (by with_reducible first | exact at0 | exact at1 | exact at2 | exact at3 | exact at4) hx; clear hx; simp only [k2, k3] at hm) | (with_reducible first | refine stBs ?_ | refine stMs ?_ | refine stAp ?_ | refine stCo ?_)); (try simp only [k4, k5, k6, Act.put, k1, k2, k3]))
  go_ret2
  exact ⟨rfl, hm⟩
theorem readS_err (b : Nat) (s r t : ByteArray) (e : Int) (he : e ≠ 0) (h1 : Takes 51 #[.pointer (some ⟨b, 0, none⟩)] b s (.tuple #[.string t, .int .i64 e]) r) :
    Takes 50 #[.pointer (some ⟨b, 0, none⟩), .func (.func 51) #[.pointer (some ⟨b, 0, none⟩)] #[]] b s (.tuple #[.string { data := #[] }, .int .i64 e]) s := by
  intro w hw
  have he1 : (e != 0) = true := by simp [bne, he]
  go_enter Try.func50, Try.ntmps50
  have hm := Mem.start hw
  go_wp2_with ((first | refine wpList_skip (by rfl) ?_ | (refine wlL (hm := hm) (hu := by first | exact undID | exact undLabel) (hi := by (try simp only [rowOf_size, idC_size]); first | exact sizeID | exact sizeLabel) (h := ?_); (try simp only [Act.put, k1, k2, k3]); (try simp only [← labV_eq, ← idV_eq])) | refine wlLC (hm := hm) (hu := by first | exact undStr | exact undByteI | exact undInt | exact undU64) (h := ?_) | (refine wlS (hm := hm) (hv := (by first | rfl | exact idV_eq _ | exact labV_eq _ _ | exact rectV_eq _ _ _ _)) (hi := by (try simp only [rowOf_size, idC_size]); first | exact sizeID | exact sizeLabel) (hs := by first | (simp only [rowOf_size, idC_size]; done) | rfl) (h1 := by first | rfl | exact idC_one _ | exact rowOf_one _ _ (fun _ _ => rfl) | (simp only [List.size_toArray, List.length_cons, List.all_toArray', List.all_cons, List.all_nil, Value.oneCell', Bool.and_true, Bool.and_self]; done) | (simp [Value.oneCell']; done)) (h := ?_); clear hm; intro w1 hm; (try simp only [rowOf_set, k1, k2, k3, Value.cells, Act.eval, k7, k8, k9, kA, Option.getD_some] at hm)) | (refine wlSC (hm := hm) (hi := by first | exact sizeStr | exact sizeByteI | exact sizeInt | exact sizeU64) (ho := by first | decide | (simp only [rowOf_size, idC_size]; omega) | (simp; done)) (h := ?_); clear hm; intro w1 hm; (try simp only [rowOf_set, k1, k2, k3, Value.cells, Act.eval, k7, k8, k9, kA, Option.getD_some] at hm)) | (refine wlA (hz := by first | exact zeroID | exact zeroLabel) (hm := hm) (h := ?_); clear hm; intro b1 w1 hm; (try simp only [rowOf_set, k1, k2, k3, Value.cells, Act.eval, k7, k8, k9, kA, Option.getD_some] at hm)) | (refine wl_box (by rfl) rfl (by first | exact idV_cells _ | exact labV_cells _ _ | exact rectV_cells _ _ _ _ | rfl) hm ?_; clear hm; intro b1 w1 hm) | (go_at_call 51; refine (h1 _ (hm.heap (by with_reducible first | exact at0 | exact at1 | exact at2 | exact at3 | exact at4))).mono ?_; rintro e w1 ⟨rfl, hx⟩; replace hm := hm.callAt (by with_reducible first | exact at0 | exact at1 | exact at2 | exact at3 | exact at4) hx; clear hx; simp only [k2, k3] at hm) | (go_at_call 56; refine (h1 _ (hm.heap (by with_reducible first | exact at0 | exact at1 | exact at2 | exact at3 | exact at4))).mono ?_; rintro e w1 ⟨rfl, hx⟩; replace hm := hm.callAt (by with_reducible first | exact at0 | exact at1 | exact at2 | exact at3 | exact at4) hx; clear hx; simp only [k2, k3] at hm) | (with_reducible first | refine stBs ?_ | refine stMs ?_ | refine stAp ?_ | refine stCo ?_)); (try simp only [k4, k5, k6, Act.put, k1, k2, k3]))
  go_ret2
  exact ⟨rfl, hm⟩
theorem Text_go (b : Nat) (s r t : ByteArray) (e : Int) (h1 : Takes 50 #[.pointer (some ⟨b, 0, none⟩), .func (.func 51) #[.pointer (some ⟨b, 0, none⟩)] #[]] b s (.tuple #[.string t, .int .i64 e]) r) :
    Takes 25 #[.pointer (some ⟨b, 0, none⟩)] b s (.tuple #[.string t, .int .i64 e]) r := by
  intro w hw
  go_enter Try.func25, Try.ntmps25
  have hm := Mem.start hw
  go_wp2_with ((first | refine wpList_skip (by rfl) ?_ | (refine wlL (hm := hm) (hu := by first | exact undID | exact undLabel) (hi := by (try simp only [rowOf_size, idC_size]); first | exact sizeID | exact sizeLabel) (h := ?_); (try simp only [Act.put, k1, k2, k3]); (try simp only [← labV_eq, ← idV_eq])) | refine wlLC (hm := hm) (hu := by first | exact undStr | exact undByteI | exact undInt | exact undU64) (h := ?_) | (refine wlS (hm := hm) (hv := (by first | rfl | exact idV_eq _ | exact labV_eq _ _ | exact rectV_eq _ _ _ _)) (hi := by (try simp only [rowOf_size, idC_size]); first | exact sizeID | exact sizeLabel) (hs := by first | (simp only [rowOf_size, idC_size]; done) | rfl) (h1 := by first | rfl | exact idC_one _ | exact rowOf_one _ _ (fun _ _ => rfl) | (simp only [List.size_toArray, List.length_cons, List.all_toArray', List.all_cons, List.all_nil, Value.oneCell', Bool.and_true, Bool.and_self]; done) | (simp [Value.oneCell']; done)) (h := ?_); clear hm; intro w1 hm; (try simp only [rowOf_set, k1, k2, k3, Value.cells, Act.eval, k7, k8, k9, kA, Option.getD_some] at hm)) | (refine wlSC (hm := hm) (hi := by first | exact sizeStr | exact sizeByteI | exact sizeInt | exact sizeU64) (ho := by first | decide | (simp only [rowOf_size, idC_size]; omega) | (simp; done)) (h := ?_); clear hm; intro w1 hm; (try simp only [rowOf_set, k1, k2, k3, Value.cells, Act.eval, k7, k8, k9, kA, Option.getD_some] at hm)) | (refine wlA (hz := by first | exact zeroID | exact zeroLabel) (hm := hm) (h := ?_); clear hm; intro b1 w1 hm; (try simp only [rowOf_set, k1, k2, k3, Value.cells, Act.eval, k7, k8, k9, kA, Option.getD_some] at hm)) | (refine wl_box (by rfl) rfl (by first | exact idV_cells _ | exact labV_cells _ _ | exact rectV_cells _ _ _ _ | rfl) hm ?_; clear hm; intro b1 w1 hm) | (go_at_call 50; refine (h1 _ (hm.heap (by with_reducible first | exact at0 | exact at1 | exact at2 | exact at3 | exact at4))).mono ?_; rintro e w1 ⟨rfl, hx⟩; replace hm := hm.callAt (by with_reducible first | exact at0 | exact at1 | exact at2 | exact at3 | exact at4) hx; clear hx; simp only [k2, k3] at hm) | (go_at_call 55; refine (h1 _ (hm.heap (by with_reducible first | exact at0 | exact at1 | exact at2 | exact at3 | exact at4))).mono ?_; rintro e w1 ⟨rfl, hx⟩; replace hm := hm.callAt (by with_reducible first | exact at0 | exact at1 | exact at2 | exact at3 | exact at4) hx; clear hx; simp only [k2, k3] at hm) | (with_reducible first | refine stBs ?_ | refine stMs ?_ | refine stAp ?_ | refine stCo ?_)); (try simp only [k4, k5, k6, Act.put, k1, k2, k3]))
  go_ret2
  exact ⟨rfl, hm⟩
/-- What Text reads: its error, or 0; its size. -/
def txtN (f : Nat → Nat) : Nat := valB (dropF 1 f) (f 0)
def txtE (m : Nat) (f : Nat → Nat) : Nat := if numE m f ≠ 0 then numE m f else if 4096 < txtN f then 3 else if m - 1 - f 0 < txtN f then 4 else 0
theorem text_any (b m : Nat) (f : Nat → Nat) (hf : ∀ j, f j < 256) : ∃ (t r : ByteArray), Takes 51 #[.pointer (some ⟨b, 0, none⟩)] b (bytesB m f) (.tuple #[.string t, .int .i64 ((txtE m f : Nat) : Int)]) r ∧
    (txtE m f = 0 → t = bytesB (txtN f) (dropF (1 + f 0) f) ∧ r = bytesB (m - 1 - f 0 - txtN f) (dropF (1 + f 0 + txtN f) f)) := by
  obtain ⟨v, r, h1, h2⟩ := number_any b m f hf
  unfold txtE
  by_cases h0 : numE m f ≠ 0
  · rw [if_pos h0]
    exact ⟨_, _, text_err b _ _ _ _ (by omega) h1, fun h => (h0 h).elim⟩
  · rw [if_neg h0]
    have h0 : numE m f = 0 := by omega
    obtain ⟨rfl, rfl⟩ := h2 h0
    rw [h0] at h1
    change Takes _ _ b _ (.tuple #[.int .u64 ((txtN f : Nat) : Int), _]) _ at h1
    by_cases h4 : 4096 < txtN f
    · rw [if_pos h4]
      exact ⟨_, _, text_form b _ _ _ h4 h1, fun h => by omega⟩
    · rw [if_neg h4]
      by_cases hl : m - 1 - f 0 < txtN f
      · rw [if_pos hl]
        exact ⟨_, _, text_go b _ _ _ _ _ _ h4 h1 (take_more b _ _ _ (bytesB_size _ _) hl), fun h => by omega⟩
      · rw [if_neg hl]
        refine ⟨_, _, text_go b _ _ _ _ _ _ h4 h1 (takeB_ok b _ _ _ (by omega)), fun _ => ⟨rfl, bytesB_congr fun j _ => by unfold dropF; rw [Nat.add_assoc (1 + f 0)]⟩⟩
theorem Text_ok (b m : Nat) (f : Nat → Nat) (hf : ∀ j, f j < 256) (h : txtE m f = 0) : Takes 25 #[.pointer (some ⟨b, 0, none⟩)] b (bytesB m f) (.tuple #[.string (bytesB (txtN f) (dropF (1 + f 0) f)), .int .i64 0]) (bytesB (m - 1 - f 0 - txtN f) (dropF (1 + f 0 + txtN f) f)) := by
  obtain ⟨t, r, h1, h2⟩ := text_any b m f hf
  obtain ⟨rfl, rfl⟩ := h2 h
  rw [h] at h1
  exact Text_go b _ _ _ _ (readS_ok b _ _ _ h1)
theorem Text_err (b m : Nat) (f : Nat → Nat) (hf : ∀ j, f j < 256) (h : txtE m f ≠ 0) : Takes 25 #[.pointer (some ⟨b, 0, none⟩)] b (bytesB m f) (.tuple #[.string { data := #[] }, .int .i64 ((txtE m f : Nat) : Int)]) (bytesB m f) := by
  obtain ⟨t, r, h1, _⟩ := text_any b m f hf
  exact Text_go b _ _ _ _ (readS_err b _ _ _ _ (by omega) h1)
end Go.Proofs.Ytijkmbebfodhdaa
