/-
  Wire: the document's reader: a place, a label.
-/
import Derived.Test.YtijkmbebfodhdaaWirJ
namespace Go.Proofs.Ytijkmbebfodhdaa
open Go.RowKit
set_option linter.unusedSimpArgs false
set_option linter.unusedVariables false
set_option maxHeartbeats 1000000
set_option maxRecDepth 20000
attribute [local irreducible] wpQuiet wpList wpAnyH Calls

theorem refPl_err (b : Nat) (s : ByteArray) (m : Nat) (hs : s.size = m) (h : m < 20) : TakesR 31 #[.pointer (some ⟨b, 0, none⟩)] b s (.tuple #[idV 0, .int .i64 4]) s := by
  intro w hw
  rw [idV_zero]
  go_enter Try.func31, Try.ntmps31
  have hm := Mem.start hw
  go_wp2_with ((first | refine wpList_skip (by rfl) ?_ | (refine wlL (hm := hm) (hu := by first | exact undID | exact undLabel) (hi := by (try simp only [rowOf_size, idC_size]); first | exact sizeID | exact sizeLabel) (h := ?_); (try simp only [Act.put, k1, k2, k3]); (try simp only [← labV_eq, ← idV_eq])) | refine wlLC (hm := hm) (hu := by first | exact undStr | exact undByteI | exact undInt | exact undU64) (h := ?_) | (refine wlS (hm := hm) (hv := (by first | rfl | exact idV_eq _ | exact labV_eq _ _ | exact rectV_eq _ _ _ _)) (hi := by (try simp only [rowOf_size, idC_size]); first | exact sizeID | exact sizeLabel) (hs := by first | (simp only [rowOf_size, idC_size]; done) | rfl) (h1 := by first | rfl | exact idC_one _ | exact rowOf_one _ _ (fun _ _ => rfl) | (simp only [List.size_toArray, List.length_cons, List.all_toArray', List.all_cons, List.all_nil, Value.oneCell', Bool.and_true, Bool.and_self]; done) | (simp [Value.oneCell']; done)) (h := ?_); clear hm; intro w1 hm; (try simp only [rowOf_set, k1, k2, k3, Value.cells, Act.eval, k7, k8, k9, kA, Option.getD_some] at hm)) | (refine wlSC (hm := hm) (hi := by first | exact sizeStr | exact sizeByteI | exact sizeInt | exact sizeU64) (ho := by first | decide | (simp only [rowOf_size, idC_size]; omega) | (simp; done)) (h := ?_); clear hm; intro w1 hm; (try simp only [rowOf_set, k1, k2, k3, Value.cells, Act.eval, k7, k8, k9, kA, Option.getD_some] at hm)) | (refine wlA (hz := by first | exact zeroID | exact zeroLabel) (hm := hm) (h := ?_); clear hm; intro b1 w1 hm; (try simp only [rowOf_set, k1, k2, k3, Value.cells, Act.eval, k7, k8, k9, kA, Option.getD_some] at hm)) | (refine wl_box (by rfl) rfl (by first | exact idV_cells _ | exact labV_cells _ _ | exact rectV_cells _ _ _ _ | rfl) hm ?_; clear hm; intro b1 w1 hm) | (refine wl_build (by rfl) (built_zeroL) rfl ?_; (try simp only [Act.put, k1, k2, k3]); (try simp only [← labV_eq, ← idV_eq])) | (refine wl_build (by rfl) (built_lab1 _) rfl ?_; (try simp only [Act.put, k1, k2, k3]); (try simp only [← labV_eq, ← idV_eq])) | (go_at_call 16; refine (hi _).mono ?_; rintro e w1 ⟨rfl, hx⟩; replace hm := hm.call hx; clear hx) | (with_reducible first | refine stBs ?_ | refine stMs ?_ | refine stAp ?_ | refine stCo ?_)); (try simp only [k4, k5, k6, Act.put, k1, k2, k3]))
  refine bodyPost_ret (results_row_tmp (h := rfl) _ _ _ _ _ _ _ rfl (hm.heap (i := 1) rfl) undID rfl (by first | exact sizeID | (simp only [rowOf_size, idC_size]; exact sizeID))) rfl ?_
  exact ⟨rfl, hm.tail.tail⟩
theorem refPl_ok (b a : Nat) (s r : ByteArray) (m : Nat) (hs : s.size = m) (h : 20 ≤ m) (hr : s.extract 20 s.size = r)
    (hI : ∀ k : Nat, k < 20 → ∀ w, (Instr.index 9 (.string s) (.int .i64 (k : Int))).run Try.prog w = .ok (.int .u8 ((dig a k : Nat) : Int)) w) :
    TakesR 31 #[.pointer (some ⟨b, 0, none⟩)] b s (.tuple #[idV a, .int .i64 0]) r := by
  intro w hw
  have c1 := slice_from (s := s) (t := r) (n := 20) (by omega) hr
  have c2 : ∀ w, (Instr.slice 9 (.string s) (some (.int .i64 20)) none none).run Try.prog w = .ok (.string r) w := c1
  have HI := hid hI
  have h20 : ¬ m < 20 := by omega
  clear hI hr h c1
  go_enter Try.func31, Try.ntmps31
  have hm := Mem.start hw
  clear hw
  go_wp2_with (with_reducible first | refine stAl ?_ | refine stBo ?_ | refine stLo ?_ | refine stSo ?_ | refine stBu ?_ | refine stBs ?_ | refine stMs ?_ | refine stAp ?_ | refine stCo ?_); refine Stop.go (wl_alloc (by rfl) zeroID rfl hm ?_); clear hm; intro b2 w2 hm; simp only [Act.put, k1, k2, k3]; (try simp only [rowOf_set, k1, k2, k3, Value.cells, Act.eval, k7, k8, k9, kA, Option.getD_some] at hm)
  go_wp2_with (with_reducible first | refine stAl ?_ | refine stBo ?_ | refine stLo ?_ | refine stSo ?_ | refine stBu ?_ | refine stBs ?_ | refine stMs ?_ | refine stAp ?_ | refine stCo ?_); refine Stop.go (wl_alloc (by rfl) zeroID rfl hm ?_); clear hm; intro b3 w3 hm; simp only [Act.put, k1, k2, k3]; (try simp only [rowOf_set, k1, k2, k3, Value.cells, Act.eval, k7, k8, k9, kA, Option.getD_some] at hm)
  go_wp2_with ((first | refine wpList_skip (by rfl) ?_ | (refine wlL (hm := hm) (hu := by first | exact undID | exact undLabel) (hi := by (try simp only [rowOf_size, idC_size]); first | exact sizeID | exact sizeLabel) (h := ?_); (try simp only [Act.put, k1, k2, k3]); (try simp only [← labV_eq, ← idV_eq])) | refine wlLC (hm := hm) (hu := by first | exact undStr | exact undByteI | exact undInt | exact undU64) (h := ?_) | (refine wlS (hm := hm) (hv := (by first | rfl | exact idV_eq _ | exact labV_eq _ _ | exact rectV_eq _ _ _ _)) (hi := by (try simp only [rowOf_size, idC_size]); first | exact sizeID | exact sizeLabel) (hs := by first | (simp only [rowOf_size, idC_size]; done) | rfl) (h1 := by first | rfl | exact idC_one _ | exact rowOf_one _ _ (fun _ _ => rfl) | (simp only [List.size_toArray, List.length_cons, List.all_toArray', List.all_cons, List.all_nil, Value.oneCell', Bool.and_true, Bool.and_self]; done) | (simp [Value.oneCell']; done)) (h := ?_); clear hm; intro w1 hm; (try simp only [rowOf_set, k1, k2, k3, Value.cells, Act.eval, k7, k8, k9, kA, Option.getD_some] at hm)) | (refine wlSC (hm := hm) (hi := by first | exact sizeStr | exact sizeByteI | exact sizeInt | exact sizeU64) (ho := by first | decide | (simp only [rowOf_size, idC_size]; omega) | (simp; done)) (h := ?_); clear hm; intro w1 hm; (try simp only [rowOf_set, k1, k2, k3, Value.cells, Act.eval, k7, k8, k9, kA, Option.getD_some] at hm)) | (refine wlA (hz := by first | exact zeroID | exact zeroLabel) (hm := hm) (h := ?_); clear hm; intro b1 w1 hm; (try simp only [rowOf_set, k1, k2, k3, Value.cells, Act.eval, k7, k8, k9, kA, Option.getD_some] at hm)) | (refine wl_box (by rfl) rfl (by first | exact idV_cells _ | exact labV_cells _ _ | exact rectV_cells _ _ _ _ | rfl) hm ?_; clear hm; intro b1 w1 hm) | (refine wl_build (by rfl) (built_zeroL) rfl ?_; (try simp only [Act.put, k1, k2, k3]); (try simp only [← labV_eq, ← idV_eq])) | (refine wl_build (by rfl) (built_lab1 _) rfl ?_; (try simp only [Act.put, k1, k2, k3]); (try simp only [← labV_eq, ← idV_eq])) | (go_at_call 16; refine (hi _).mono ?_; rintro e w1 ⟨rfl, hx⟩; replace hm := hm.call hx; clear hx) | (with_reducible first | refine stBs ?_ | refine stMs ?_ | refine stAp ?_ | refine stCo ?_)); (try simp only [k4, k5, k6, Act.put, k1, k2, k3]))
  go_loopw [5] (fun vi wr => ∃ (i : Nat) (cur : Array Value), i ≤ 20 ∧ vi = .int .i64 (i : Int) ∧ cur.size = 20 ∧ Hid (∀ j, j < i → cur[j]? = some (.int .u8 ((dig a j : Nat) : Int))) ∧ Mem w [b] [(b3, .cells cur 24 (0, 0)), (b2, .cells (rowOf 20 fun _ => .int .u8 0) 24 (0, 0)), (b, .cells #[.string s] 52 (0, 0))] wr)
    (fun vi _ => (20 - intOf vi).toNat)
  case atStart => exact ⟨0, _, by omega, rfl, rowOf_size _ _, hid (fun j hj => by omega), hm⟩
  case round =>
    clear hm
    obtain ⟨i, cur, hi, rfl, hcs, HC, hm⟩ := hrel
    by_cases hi20 : i < 20
    · have hix := HI.out i hi20
      have e1 : (i : Int) < 20 := by omega
      have e2 : (0 : Int) ≤ (i : Int) := by omega
      have g1 : IntKind.i64.wrap ((i : Int) + 1) = (i : Int) + 1 := wrap_i64 (by omega) (by omega)
      have HN := hid (show ∀ j, j < i + 1 → (cur.setIfInBounds i (.int .u8 ((dig a i : Nat) : Int)))[j]? = some (.int .u8 ((dig a j : Nat) : Int)) from fun j hj => by
        by_cases hji : j = i
        · subst hji
          rw [Array.getElem?_setIfInBounds_self_of_lt (by omega)]
        · rw [Array.getElem?_setIfInBounds_ne (by omega)]
          exact HC.out j (by omega))
      obtain ⟨y, hy⟩ : ∃ y, dig a i = y := ⟨_, rfl⟩
      rw [hy] at hix HN
      have HCS := hid (show (cur.setIfInBounds i (.int .u8 (y : Int))).size = 20 from by rw [Array.size_setIfInBounds]; exact hcs)
      clear hy HC hi
      go_wp2_with (with_reducible first | refine stAl ?_ | refine stBo ?_ | refine stLo ?_ | refine stSo ?_ | refine stBu ?_ | refine stBs ?_ | refine stMs ?_ | refine stAp ?_ | refine stCo ?_); refine Stop.go (wl_loadCell (i := 2) (by rfl) hm rfl rfl (rfl) undStr rfl ?_); simp only [Act.put, k1, k2, k3]
      go_wp2_with (with_reducible first | refine stAl ?_ | refine stBo ?_ | refine stLo ?_ | refine stSo ?_ | refine stBu ?_ | refine stBs ?_ | refine stMs ?_ | refine stAp ?_ | refine stCo ?_)
      refine Stop.go (wl_storeCell (i := 0) (by rfl) hm rfl rfl rfl rfl sizeByteI (by omega) ?_)
      clear hm; intro w5 hm; simp only [Act.put, k1, k2, k3]; rw [k2] at hm
      clear hcs hi20
      go_wp2_with ((first | refine wpList_skip (by rfl) ?_ | (refine wlL (hm := hm) (hu := by first | exact undID | exact undLabel) (hi := by (try simp only [rowOf_size, idC_size]); first | exact sizeID | exact sizeLabel) (h := ?_); (try simp only [Act.put, k1, k2, k3]); (try simp only [← labV_eq, ← idV_eq])) | refine wlLC (hm := hm) (hu := by first | exact undStr | exact undByteI | exact undInt | exact undU64) (h := ?_) | (refine wlS (hm := hm) (hv := (by first | rfl | exact idV_eq _ | exact labV_eq _ _ | exact rectV_eq _ _ _ _)) (hi := by (try simp only [rowOf_size, idC_size]); first | exact sizeID | exact sizeLabel) (hs := by first | (simp only [rowOf_size, idC_size]; done) | rfl) (h1 := by first | rfl | exact idC_one _ | exact rowOf_one _ _ (fun _ _ => rfl) | (simp only [List.size_toArray, List.length_cons, List.all_toArray', List.all_cons, List.all_nil, Value.oneCell', Bool.and_true, Bool.and_self]; done) | (simp [Value.oneCell']; done)) (h := ?_); clear hm; intro w1 hm; (try simp only [rowOf_set, k1, k2, k3, Value.cells, Act.eval, k7, k8, k9, kA, Option.getD_some] at hm)) | (refine wlSC (hm := hm) (hi := by first | exact sizeStr | exact sizeByteI | exact sizeInt | exact sizeU64) (ho := by first | decide | (simp only [rowOf_size, idC_size]; omega) | (simp; done)) (h := ?_); clear hm; intro w1 hm; (try simp only [rowOf_set, k1, k2, k3, Value.cells, Act.eval, k7, k8, k9, kA, Option.getD_some] at hm)) | (refine wlA (hz := by first | exact zeroID | exact zeroLabel) (hm := hm) (h := ?_); clear hm; intro b1 w1 hm; (try simp only [rowOf_set, k1, k2, k3, Value.cells, Act.eval, k7, k8, k9, kA, Option.getD_some] at hm)) | (refine wl_box (by rfl) rfl (by first | exact idV_cells _ | exact labV_cells _ _ | exact rectV_cells _ _ _ _ | rfl) hm ?_; clear hm; intro b1 w1 hm) | (refine wl_build (by rfl) (built_zeroL) rfl ?_; (try simp only [Act.put, k1, k2, k3]); (try simp only [← labV_eq, ← idV_eq])) | (refine wl_build (by rfl) (built_lab1 _) rfl ?_; (try simp only [Act.put, k1, k2, k3]); (try simp only [← labV_eq, ← idV_eq])) | (go_at_call 16; refine (hi _).mono ?_; rintro e w1 ⟨rfl, hx⟩; replace hm := hm.call hx; clear hx) | (with_reducible first | refine stBs ?_ | refine stMs ?_ | refine stAp ?_ | refine stCo ?_)); (try simp only [k4, k5, k6, Act.put, k1, k2, k3]))
      go_roundw
      case rel => exact ⟨i + 1, _, by omega, by go_num, HCS.out, HN, hm⟩
      case measure => (simp [intOf]; try omega)
    · obtain rfl : i = 20 := by omega
      have hcur : cur = idC a := by
        apply Array.ext_getElem?
        intro j
        by_cases hj : j < 20
        · rw [HC.out j hj, idC, rowOf_get _ _ j hj]
        · rw [Array.getElem?_eq_none (by omega), Array.getElem?_eq_none (by rw [idC_size]; omega)]
      subst hcur
      clear hi hcs HC hi20
      go_wp2_with ((first | refine wpList_skip (by rfl) ?_ | (refine wlL (hm := hm) (hu := by first | exact undID | exact undLabel) (hi := by (try simp only [rowOf_size, idC_size]); first | exact sizeID | exact sizeLabel) (h := ?_); (try simp only [Act.put, k1, k2, k3]); (try simp only [← labV_eq, ← idV_eq])) | refine wlLC (hm := hm) (hu := by first | exact undStr | exact undByteI | exact undInt | exact undU64) (h := ?_) | (refine wlS (hm := hm) (hv := (by first | rfl | exact idV_eq _ | exact labV_eq _ _ | exact rectV_eq _ _ _ _)) (hi := by (try simp only [rowOf_size, idC_size]); first | exact sizeID | exact sizeLabel) (hs := by first | (simp only [rowOf_size, idC_size]; done) | rfl) (h1 := by first | rfl | exact idC_one _ | exact rowOf_one _ _ (fun _ _ => rfl) | (simp only [List.size_toArray, List.length_cons, List.all_toArray', List.all_cons, List.all_nil, Value.oneCell', Bool.and_true, Bool.and_self]; done) | (simp [Value.oneCell']; done)) (h := ?_); clear hm; intro w1 hm; (try simp only [rowOf_set, k1, k2, k3, Value.cells, Act.eval, k7, k8, k9, kA, Option.getD_some] at hm)) | (refine wlSC (hm := hm) (hi := by first | exact sizeStr | exact sizeByteI | exact sizeInt | exact sizeU64) (ho := by first | decide | (simp only [rowOf_size, idC_size]; omega) | (simp; done)) (h := ?_); clear hm; intro w1 hm; (try simp only [rowOf_set, k1, k2, k3, Value.cells, Act.eval, k7, k8, k9, kA, Option.getD_some] at hm)) | (refine wlA (hz := by first | exact zeroID | exact zeroLabel) (hm := hm) (h := ?_); clear hm; intro b1 w1 hm; (try simp only [rowOf_set, k1, k2, k3, Value.cells, Act.eval, k7, k8, k9, kA, Option.getD_some] at hm)) | (refine wl_box (by rfl) rfl (by first | exact idV_cells _ | exact labV_cells _ _ | exact rectV_cells _ _ _ _ | rfl) hm ?_; clear hm; intro b1 w1 hm) | (refine wl_build (by rfl) (built_zeroL) rfl ?_; (try simp only [Act.put, k1, k2, k3]); (try simp only [← labV_eq, ← idV_eq])) | (refine wl_build (by rfl) (built_lab1 _) rfl ?_; (try simp only [Act.put, k1, k2, k3]); (try simp only [← labV_eq, ← idV_eq])) | (go_at_call 16; refine (hi _).mono ?_; rintro e w1 ⟨rfl, hx⟩; replace hm := hm.call hx; clear hx) | (with_reducible first | refine stBs ?_ | refine stMs ?_ | refine stAp ?_ | refine stCo ?_)); (try simp only [k4, k5, k6, Act.put, k1, k2, k3]))
      refine bodyPost_ret (results_row_tmp (h := rfl) _ _ _ _ _ _ _ rfl (hm.heap (i := 1) rfl) undID rfl (by first | exact sizeID | (simp only [rowOf_size, idC_size]; exact sizeID))) rfl ?_
      exact ⟨by rw [idV_eq a] <;> rfl, hm.tail.tail⟩
theorem refLb_more (b : Nat) (s : ByteArray) (hs : s.size = 0) : TakesR 32 #[.pointer (some ⟨b, 0, none⟩)] b s (.tuple #[labV 0 0, .int .i64 4]) s := by
  intro w hw
  rw [labV_eq 0 0]
  go_enter Try.func32, Try.ntmps32
  have hm := Mem.start hw
  go_wp2_with ((first | refine wpList_skip (by rfl) ?_ | (refine wlL (hm := hm) (hu := by first | exact undID | exact undLabel) (hi := by (try simp only [rowOf_size, idC_size]); first | exact sizeID | exact sizeLabel) (h := ?_); (try simp only [Act.put, k1, k2, k3]); (try simp only [← labV_eq, ← idV_eq])) | refine wlLC (hm := hm) (hu := by first | exact undStr | exact undByteI | exact undInt | exact undU64) (h := ?_) | (refine wlS (hm := hm) (hv := (by first | rfl | exact idV_eq _ | exact labV_eq _ _ | exact rectV_eq _ _ _ _)) (hi := by (try simp only [rowOf_size, idC_size]); first | exact sizeID | exact sizeLabel) (hs := by first | (simp only [rowOf_size, idC_size]; done) | rfl) (h1 := by first | rfl | exact idC_one _ | exact rowOf_one _ _ (fun _ _ => rfl) | (simp only [List.size_toArray, List.length_cons, List.all_toArray', List.all_cons, List.all_nil, Value.oneCell', Bool.and_true, Bool.and_self]; done) | (simp [Value.oneCell']; done)) (h := ?_); clear hm; intro w1 hm; (try simp only [rowOf_set, k1, k2, k3, Value.cells, Act.eval, k7, k8, k9, kA, Option.getD_some] at hm)) | (refine wlSC (hm := hm) (hi := by first | exact sizeStr | exact sizeByteI | exact sizeInt | exact sizeU64) (ho := by first | decide | (simp only [rowOf_size, idC_size]; omega) | (simp; done)) (h := ?_); clear hm; intro w1 hm; (try simp only [rowOf_set, k1, k2, k3, Value.cells, Act.eval, k7, k8, k9, kA, Option.getD_some] at hm)) | (refine wlA (hz := by first | exact zeroID | exact zeroLabel) (hm := hm) (h := ?_); clear hm; intro b1 w1 hm; (try simp only [rowOf_set, k1, k2, k3, Value.cells, Act.eval, k7, k8, k9, kA, Option.getD_some] at hm)) | (refine wl_box (by rfl) rfl (by first | exact idV_cells _ | exact labV_cells _ _ | exact rectV_cells _ _ _ _ | rfl) hm ?_; clear hm; intro b1 w1 hm) | (refine wl_build (by rfl) (built_zeroL) rfl ?_; (try simp only [Act.put, k1, k2, k3]); (try simp only [← labV_eq, ← idV_eq])) | (refine wl_build (by rfl) (built_lab1 _) rfl ?_; (try simp only [Act.put, k1, k2, k3]); (try simp only [← labV_eq, ← idV_eq])) | (go_at_call 16; refine (hi _).mono ?_; rintro e w1 ⟨rfl, hx⟩; replace hm := hm.call hx; clear hx) | (with_reducible first | refine stBs ?_ | refine stMs ?_ | refine stAp ?_ | refine stCo ?_)); (try simp only [k4, k5, k6, Act.put, k1, k2, k3]))
  refine bodyPost_ret (results_row_tmp (h := rfl) _ _ _ _ _ _ _ rfl (hm.heap (i := 0) rfl) undLabel rfl (by first | exact sizeLabel | (simp only [rowOf_size, idC_size]; exact sizeLabel))) rfl ?_
  exact ⟨rfl, hm.tail⟩
theorem refLb_form (b : Nat) (s : ByteArray) (m n : Nat) (hs : s.size = m) (h0 : 0 < m) (hn : 64 < n) (hn2 : n < 256) (hI0 : ∀ w, (Instr.index 9 (.string s) (.int .i64 0)).run Try.prog w = .ok (.int .u8 (n : Int)) w) :
    TakesR 32 #[.pointer (some ⟨b, 0, none⟩)] b s (.tuple #[labV 0 0, .int .i64 3]) s := by
  intro w hw
  rw [labV_eq 0 0]
  have d1 : ((m : Int) == 0) = false := by rw [beq_eq_false_iff_ne]; omega
  have d2 : ¬ m = 0 := by omega
  have f1 : IntKind.i64.wrap (n : Int) = (n : Int) := wrap_i64 (by omega) (by omega)
  go_enter Try.func32, Try.ntmps32
  have hm := Mem.start hw
  go_wp2_with ((first | refine wpList_skip (by rfl) ?_ | (refine wlL (hm := hm) (hu := by first | exact undID | exact undLabel) (hi := by (try simp only [rowOf_size, idC_size]); first | exact sizeID | exact sizeLabel) (h := ?_); (try simp only [Act.put, k1, k2, k3]); (try simp only [← labV_eq, ← idV_eq])) | refine wlLC (hm := hm) (hu := by first | exact undStr | exact undByteI | exact undInt | exact undU64) (h := ?_) | (refine wlS (hm := hm) (hv := (by first | rfl | exact idV_eq _ | exact labV_eq _ _ | exact rectV_eq _ _ _ _)) (hi := by (try simp only [rowOf_size, idC_size]); first | exact sizeID | exact sizeLabel) (hs := by first | (simp only [rowOf_size, idC_size]; done) | rfl) (h1 := by first | rfl | exact idC_one _ | exact rowOf_one _ _ (fun _ _ => rfl) | (simp only [List.size_toArray, List.length_cons, List.all_toArray', List.all_cons, List.all_nil, Value.oneCell', Bool.and_true, Bool.and_self]; done) | (simp [Value.oneCell']; done)) (h := ?_); clear hm; intro w1 hm; (try simp only [rowOf_set, k1, k2, k3, Value.cells, Act.eval, k7, k8, k9, kA, Option.getD_some] at hm)) | (refine wlSC (hm := hm) (hi := by first | exact sizeStr | exact sizeByteI | exact sizeInt | exact sizeU64) (ho := by first | decide | (simp only [rowOf_size, idC_size]; omega) | (simp; done)) (h := ?_); clear hm; intro w1 hm; (try simp only [rowOf_set, k1, k2, k3, Value.cells, Act.eval, k7, k8, k9, kA, Option.getD_some] at hm)) | (refine wlA (hz := by first | exact zeroID | exact zeroLabel) (hm := hm) (h := ?_); clear hm; intro b1 w1 hm; (try simp only [rowOf_set, k1, k2, k3, Value.cells, Act.eval, k7, k8, k9, kA, Option.getD_some] at hm)) | (refine wl_box (by rfl) rfl (by first | exact idV_cells _ | exact labV_cells _ _ | exact rectV_cells _ _ _ _ | rfl) hm ?_; clear hm; intro b1 w1 hm) | (refine wl_build (by rfl) (built_zeroL) rfl ?_; (try simp only [Act.put, k1, k2, k3]); (try simp only [← labV_eq, ← idV_eq])) | (refine wl_build (by rfl) (built_lab1 _) rfl ?_; (try simp only [Act.put, k1, k2, k3]); (try simp only [← labV_eq, ← idV_eq])) | (go_at_call 16; refine (hi _).mono ?_; rintro e w1 ⟨rfl, hx⟩; replace hm := hm.call hx; clear hx) | (with_reducible first | refine stBs ?_ | refine stMs ?_ | refine stAp ?_ | refine stCo ?_)); (try simp only [k4, k5, k6, Act.put, k1, k2, k3]))
  refine bodyPost_ret (results_row_tmp (h := rfl) _ _ _ _ _ _ _ rfl (hm.heap (i := 1) rfl) undLabel rfl (by first | exact sizeLabel | (simp only [rowOf_size, idC_size]; exact sizeLabel))) rfl ?_
  exact ⟨rfl, hm.tail.tail⟩
theorem refLb_cut (b : Nat) (s : ByteArray) (m n c : Nat) (hs : s.size = m) (h0 : 0 < m) (hn : ¬ 64 < n) (hc : (n + 7) / 8 = c) (hlt : m < c + 1) (hI0 : ∀ w, (Instr.index 9 (.string s) (.int .i64 0)).run Try.prog w = .ok (.int .u8 (n : Int)) w) :
    TakesR 32 #[.pointer (some ⟨b, 0, none⟩)] b s (.tuple #[labV 0 0, .int .i64 4]) s := by
  intro w hw
  rw [labV_eq 0 0]
  have d1 : ((m : Int) == 0) = false := by rw [beq_eq_false_iff_ne]; omega
  have d2 : ¬ m = 0 := by omega
  have f1 : IntKind.i64.wrap (n : Int) = (n : Int) := wrap_i64 (by omega) (by omega)
  obtain ⟨n7, hn7⟩ : ∃ x, n + 7 = x := ⟨_, rfl⟩
  obtain ⟨c1, hc1⟩ : ∃ x, c + 1 = x := ⟨_, rfl⟩
  have f2 : IntKind.i64.wrap ((n : Int) + 7) = (n7 : Int) := by rw [wrap_i64 (by omega) (by omega)]; omega
  have f4 : (n7 : Int) / 8 = (c : Int) := by omega
  have f5 : (n7 : Int).tdiv 8 = (c : Int) := by rw [Int.tdiv_eq_ediv_of_nonneg (by omega)]; exact f4
  have f6 : IntKind.i64.wrap (c : Int) = (c : Int) := wrap_i64 (by omega) (by omega)
  have f7 : IntKind.i64.wrap (1 + (c : Int)) = (c1 : Int) := by rw [wrap_i64 (by omega) (by omega)]; omega
  rw [hc1] at hlt
  clear hn7 hc hc1
  go_enter Try.func32, Try.ntmps32
  have hm := Mem.start hw
  go_wp2_with ((first | refine wpList_skip (by rfl) ?_ | (refine wlL (hm := hm) (hu := by first | exact undID | exact undLabel) (hi := by (try simp only [rowOf_size, idC_size]); first | exact sizeID | exact sizeLabel) (h := ?_); (try simp only [Act.put, k1, k2, k3]); (try simp only [← labV_eq, ← idV_eq])) | refine wlLC (hm := hm) (hu := by first | exact undStr | exact undByteI | exact undInt | exact undU64) (h := ?_) | (refine wlS (hm := hm) (hv := (by first | rfl | exact idV_eq _ | exact labV_eq _ _ | exact rectV_eq _ _ _ _)) (hi := by (try simp only [rowOf_size, idC_size]); first | exact sizeID | exact sizeLabel) (hs := by first | (simp only [rowOf_size, idC_size]; done) | rfl) (h1 := by first | rfl | exact idC_one _ | exact rowOf_one _ _ (fun _ _ => rfl) | (simp only [List.size_toArray, List.length_cons, List.all_toArray', List.all_cons, List.all_nil, Value.oneCell', Bool.and_true, Bool.and_self]; done) | (simp [Value.oneCell']; done)) (h := ?_); clear hm; intro w1 hm; (try simp only [rowOf_set, k1, k2, k3, Value.cells, Act.eval, k7, k8, k9, kA, Option.getD_some] at hm)) | (refine wlSC (hm := hm) (hi := by first | exact sizeStr | exact sizeByteI | exact sizeInt | exact sizeU64) (ho := by first | decide | (simp only [rowOf_size, idC_size]; omega) | (simp; done)) (h := ?_); clear hm; intro w1 hm; (try simp only [rowOf_set, k1, k2, k3, Value.cells, Act.eval, k7, k8, k9, kA, Option.getD_some] at hm)) | (refine wlA (hz := by first | exact zeroID | exact zeroLabel) (hm := hm) (h := ?_); clear hm; intro b1 w1 hm; (try simp only [rowOf_set, k1, k2, k3, Value.cells, Act.eval, k7, k8, k9, kA, Option.getD_some] at hm)) | (refine wl_box (by rfl) rfl (by first | exact idV_cells _ | exact labV_cells _ _ | exact rectV_cells _ _ _ _ | rfl) hm ?_; clear hm; intro b1 w1 hm) | (refine wl_build (by rfl) (built_zeroL) rfl ?_; (try simp only [Act.put, k1, k2, k3]); (try simp only [← labV_eq, ← idV_eq])) | (refine wl_build (by rfl) (built_lab1 _) rfl ?_; (try simp only [Act.put, k1, k2, k3]); (try simp only [← labV_eq, ← idV_eq])) | (go_at_call 16; refine (hi _).mono ?_; rintro e w1 ⟨rfl, hx⟩; replace hm := hm.call hx; clear hx) | (with_reducible first | refine stBs ?_ | refine stMs ?_ | refine stAp ?_ | refine stCo ?_)); (try simp only [k4, k5, k6, Act.put, k1, k2, k3]))
  refine bodyPost_ret (results_row_tmp (h := rfl) _ _ _ _ _ _ _ rfl (hm.heap (i := 1) rfl) undLabel rfl (by first | exact sizeLabel | (simp only [rowOf_size, idC_size]; exact sizeLabel))) rfl ?_
  exact ⟨rfl, hm.tail.tail⟩
theorem refLb_go (b : Nat) (s r : ByteArray) (m n c : Nat) (F : Nat → Nat) (hF : ∀ k, F k < 256) (hs : s.size = m) (hm6 : m < 2 ^ 61) (hn : ¬ 64 < n) (hc : (n + 7) / 8 = c) (hlt : c + 1 ≤ m) (hr : s.extract (c + 1) s.size = r) (q : Bool)
    (hI0 : ∀ w, (Instr.index 9 (.string s) (.int .i64 0)).run Try.prog w = .ok (.int .u8 (n : Int)) w)
    (hI : ∀ k : Nat, k < c → ∀ w, (Instr.index 9 (.string s) (.int .i64 ((k + 1 : Nat) : Int))).run Try.prog w = .ok (.int .u8 ((F k : Nat) : Int)) w)
    (hi : Says 16 #[labV (n : Int) (labAcc F c)] (.bool q)) :
    TakesR 32 #[.pointer (some ⟨b, 0, none⟩)] b s (if q then .tuple #[labV (n : Int) (labAcc F c), .int .i64 0] else .tuple #[labV 0 0, .int .i64 3]) (if q then r else s) := by
  intro w hw
  obtain ⟨res, hres⟩ : ∃ res, (if q then Value.tuple #[labV (n : Int) (labAcc F c), .int .i64 0] else .tuple #[labV 0 0, .int .i64 3]) = res := ⟨_, rfl⟩
  obtain ⟨end', hend⟩ : ∃ e, (if q then r else s) = e := ⟨_, rfl⟩
  rw [hres, hend]
  have HRes := hid hres
  have HEnd := hid hend
  have HF := hid hF
  have HI := hid hI
  have Hi := hid hi
  have d1 : ((m : Int) == 0) = false := by rw [beq_eq_false_iff_ne]; omega
  have d2 : ¬ m = 0 := by omega
  have f1 : IntKind.i64.wrap (n : Int) = (n : Int) := wrap_i64 (by omega) (by omega)
  have HSL := hid (slice_from (s := s) (t := r) (n := c + 1) (by omega) hr)
  obtain ⟨n7, hn7⟩ : ∃ x, n + 7 = x := ⟨_, rfl⟩
  obtain ⟨c1, hc1⟩ : ∃ x, c + 1 = x := ⟨_, rfl⟩
  have f2 : IntKind.i64.wrap ((n : Int) + 7) = (n7 : Int) := by rw [wrap_i64 (by omega) (by omega)]; omega
  have f4 : (n7 : Int) / 8 = (c : Int) := by omega
  have f5 : (n7 : Int).tdiv 8 = (c : Int) := by rw [Int.tdiv_eq_ediv_of_nonneg (by omega)]; exact f4
  have f6 : IntKind.i64.wrap (c : Int) = (c : Int) := wrap_i64 (by omega) (by omega)
  have f7 : IntKind.i64.wrap (1 + (c : Int)) = (c1 : Int) := by rw [wrap_i64 (by omega) (by omega)]; omega
  have hlt' : ¬ m < c1 := by omega
  rw [hc1] at HSL
  have HC := hid (show c ≤ 8 from by omega)
  clear hn7 hc hc1 hres hend hF hI hi hr hlt hm6
  go_enter Try.func32, Try.ntmps32
  have hm := Mem.start hw
  clear hw
  go_wp2_with (with_reducible first | refine stAl ?_ | refine stBo ?_ | refine stLo ?_ | refine stSo ?_ | refine stBu ?_ | refine stBs ?_ | refine stMs ?_ | refine stAp ?_ | refine stCo ?_); refine Stop.go (wl_alloc (by rfl) zeroLabel rfl hm ?_); clear hm; intro b2 w2 hm; simp only [Act.put, k1, k2, k3]; (try simp only [rowOf_set, k1, k2, k3, Value.cells, Act.eval, k7, k8, k9, kA, Option.getD_some] at hm)
  go_wp2_with ((first | refine wpList_skip (by rfl) ?_ | (refine wlL (hm := hm) (hu := by first | exact undID | exact undLabel) (hi := by (try simp only [rowOf_size, idC_size]); first | exact sizeID | exact sizeLabel) (h := ?_); (try simp only [Act.put, k1, k2, k3]); (try simp only [← labV_eq, ← idV_eq])) | refine wlLC (hm := hm) (hu := by first | exact undStr | exact undByteI | exact undInt | exact undU64) (h := ?_) | (refine wlS (hm := hm) (hv := (by first | rfl | exact idV_eq _ | exact labV_eq _ _ | exact rectV_eq _ _ _ _)) (hi := by (try simp only [rowOf_size, idC_size]); first | exact sizeID | exact sizeLabel) (hs := by first | (simp only [rowOf_size, idC_size]; done) | rfl) (h1 := by first | rfl | exact idC_one _ | exact rowOf_one _ _ (fun _ _ => rfl) | (simp only [List.size_toArray, List.length_cons, List.all_toArray', List.all_cons, List.all_nil, Value.oneCell', Bool.and_true, Bool.and_self]; done) | (simp [Value.oneCell']; done)) (h := ?_); clear hm; intro w1 hm; (try simp only [rowOf_set, k1, k2, k3, Value.cells, Act.eval, k7, k8, k9, kA, Option.getD_some] at hm)) | (refine wlSC (hm := hm) (hi := by first | exact sizeStr | exact sizeByteI | exact sizeInt | exact sizeU64) (ho := by first | decide | (simp only [rowOf_size, idC_size]; omega) | (simp; done)) (h := ?_); clear hm; intro w1 hm; (try simp only [rowOf_set, k1, k2, k3, Value.cells, Act.eval, k7, k8, k9, kA, Option.getD_some] at hm)) | (refine wlA (hz := by first | exact zeroID | exact zeroLabel) (hm := hm) (h := ?_); clear hm; intro b1 w1 hm; (try simp only [rowOf_set, k1, k2, k3, Value.cells, Act.eval, k7, k8, k9, kA, Option.getD_some] at hm)) | (refine wl_box (by rfl) rfl (by first | exact idV_cells _ | exact labV_cells _ _ | exact rectV_cells _ _ _ _ | rfl) hm ?_; clear hm; intro b1 w1 hm) | (refine wl_build (by rfl) (built_zeroL) rfl ?_; (try simp only [Act.put, k1, k2, k3]); (try simp only [← labV_eq, ← idV_eq])) | (refine wl_build (by rfl) (built_lab1 _) rfl ?_; (try simp only [Act.put, k1, k2, k3]); (try simp only [← labV_eq, ← idV_eq])) | (go_at_call 16; refine (hi _).mono ?_; rintro e w1 ⟨rfl, hx⟩; replace hm := hm.call hx; clear hx) | (with_reducible first | refine stBs ?_ | refine stMs ?_ | refine stAp ?_ | refine stCo ?_)); (try simp only [k4, k5, k6, Act.put, k1, k2, k3]))
  clear hI0 f1 f2 f4 f5 f6 hn hlt' d1 d2
  go_loopw [6] (fun vi wr => ∃ k : Nat, k ≤ c ∧ vi = .int .i64 (k : Int) ∧ Mem w [b] [(b1, .cells #[.int .i64 (n : Int), .int .u64 ((labAcc F k : Nat) : Int)] 26 (0, 0)), (b2, .cells #[.int .i64 0, .int .u64 0] 26 (0, 0)), (b, .cells #[.string s] 52 (0, 0))] wr)
    (fun vi _ => (c - intOf vi).toNat)
  case atStart => exact ⟨0, by omega, rfl, hm⟩
  case round =>
    clear hm
    obtain ⟨k, hk, rfl, hm⟩ := hrel
    by_cases hkc : k < c
    · have hi := HI.out k hkc
      have hfk := HF.out k
      have hc8 := HC.out
      obtain ⟨hA1, hA2⟩ := labAcc_ok F HF.out k (by omega)
      obtain ⟨hB1, hB2⟩ := labAcc_ok F HF.out (k + 1) (by omega)
      have hor := labAcc_or F HF.out k (by omega)
      obtain ⟨y, hy⟩ : ∃ y, F k = y := ⟨_, rfl⟩
      obtain ⟨v, hv⟩ : ∃ v, labAcc F k = v := ⟨_, rfl⟩
      obtain ⟨v', hv'⟩ : ∃ v', labAcc F (k + 1) = v' := ⟨_, rfl⟩
      obtain ⟨x, hx⟩ : ∃ x, 56 - 8 * k = x := ⟨_, rfl⟩
      obtain ⟨x8, hx8⟩ : ∃ x, 8 * k = x := ⟨_, rfl⟩
      obtain ⟨kk, hkk⟩ : ∃ x, k + 1 = x := ⟨_, rfl⟩
      rw [hkk] at hi
      rw [hy] at hi hfk hor
      rw [hv] at hm hor hA2
      rw [hv'] at hor hB2
      rw [hx] at hor
      have hp : 2 ^ x ≤ 2 ^ 56 := Nat.pow_le_pow_right (by omega) (by omega)
      have hz64 : y * 2 ^ x < 2 ^ 64 := by
        have := Nat.mul_lt_mul_of_lt_of_le hfk hp (Nat.pow_pos (by omega))
        omega
      obtain ⟨z, hz⟩ : ∃ z, y * 2 ^ x = z := ⟨_, rfl⟩
      rw [hz] at hor hz64
      have g0 : IntKind.u64.wrap (y : Int) = (y : Int) := wrap_u64 (by omega) (by omega)
      have g1 : IntKind.i64.wrap (8 * (k : Int)) = (x8 : Int) := by rw [wrap_i64 (by omega) (by omega)]; omega
      have g2 : IntKind.i64.wrap (56 - (x8 : Int)) = (x : Int) := by rw [wrap_i64 (by omega) (by omega)]; omega
      have hmin : min x 64 = x := by omega
      have g3 : IntKind.u64.wrap ((y : Int) * 2 ^ x) = (z : Int) := by
        rw [show (y : Int) * 2 ^ x = ((y * 2 ^ x : Nat) : Int) from by push_cast; rfl, hz]
        exact wrap_u64 (by omega) (by omega)
      have g4 : bits .or .u64 (v : Int) (z : Int) = (v' : Int) := by rw [u64_or_nat _ _ hA2 hz64, hor]
      have g5 : IntKind.i64.wrap ((k : Int) + 1) = (k : Int) + 1 := wrap_i64 (by omega) (by omega)
      have g6 : IntKind.i64.wrap (1 + (k : Int)) = (kk : Int) := by rw [wrap_i64 (by omega) (by omega)]; omega
      have z0 : (0 : Int) ≤ (x : Int) := by omega
      have e1 : (k : Int) < (c : Int) := by omega
      have HV := hid hv'
      clear hA1 hA2 hB1 hB2 hor hy hv hv' hx hx8 hp hz64 hz hc8 hfk hk hkk
      go_wp2_with ((first | refine wpList_skip (by rfl) ?_ | (refine wlL (hm := hm) (hu := by first | exact undID | exact undLabel) (hi := by (try simp only [rowOf_size, idC_size]); first | exact sizeID | exact sizeLabel) (h := ?_); (try simp only [Act.put, k1, k2, k3]); (try simp only [← labV_eq, ← idV_eq])) | refine wlLC (hm := hm) (hu := by first | exact undStr | exact undByteI | exact undInt | exact undU64) (h := ?_) | (refine wlS (hm := hm) (hv := (by first | rfl | exact idV_eq _ | exact labV_eq _ _ | exact rectV_eq _ _ _ _)) (hi := by (try simp only [rowOf_size, idC_size]); first | exact sizeID | exact sizeLabel) (hs := by first | (simp only [rowOf_size, idC_size]; done) | rfl) (h1 := by first | rfl | exact idC_one _ | exact rowOf_one _ _ (fun _ _ => rfl) | (simp only [List.size_toArray, List.length_cons, List.all_toArray', List.all_cons, List.all_nil, Value.oneCell', Bool.and_true, Bool.and_self]; done) | (simp [Value.oneCell']; done)) (h := ?_); clear hm; intro w1 hm; (try simp only [rowOf_set, k1, k2, k3, Value.cells, Act.eval, k7, k8, k9, kA, Option.getD_some] at hm)) | (refine wlSC (hm := hm) (hi := by first | exact sizeStr | exact sizeByteI | exact sizeInt | exact sizeU64) (ho := by first | decide | (simp only [rowOf_size, idC_size]; omega) | (simp; done)) (h := ?_); clear hm; intro w1 hm; (try simp only [rowOf_set, k1, k2, k3, Value.cells, Act.eval, k7, k8, k9, kA, Option.getD_some] at hm)) | (refine wlA (hz := by first | exact zeroID | exact zeroLabel) (hm := hm) (h := ?_); clear hm; intro b1 w1 hm; (try simp only [rowOf_set, k1, k2, k3, Value.cells, Act.eval, k7, k8, k9, kA, Option.getD_some] at hm)) | (refine wl_box (by rfl) rfl (by first | exact idV_cells _ | exact labV_cells _ _ | exact rectV_cells _ _ _ _ | rfl) hm ?_; clear hm; intro b1 w1 hm) | (refine wl_build (by rfl) (built_zeroL) rfl ?_; (try simp only [Act.put, k1, k2, k3]); (try simp only [← labV_eq, ← idV_eq])) | (refine wl_build (by rfl) (built_lab1 _) rfl ?_; (try simp only [Act.put, k1, k2, k3]); (try simp only [← labV_eq, ← idV_eq])) | (go_at_call 16; refine (hi _).mono ?_; rintro e w1 ⟨rfl, hx⟩; replace hm := hm.call hx; clear hx) | (with_reducible first | refine stBs ?_ | refine stMs ?_ | refine stAp ?_ | refine stCo ?_)); (try simp only [k4, k5, k6, Act.put, k1, k2, k3]))
      go_wp2_with (with_reducible first | refine stAl ?_ | refine stBo ?_ | refine stLo ?_ | refine stSo ?_ | refine stBu ?_ | refine stBs ?_ | refine stMs ?_ | refine stAp ?_ | refine stCo ?_); refine wp_quiet_last 16 (by kernel_rfl) rfl (by kernel_rfl) (by kernel_rfl) hm ?_; simp only [List.take_succ_cons, List.take_zero, List.cons_append, List.nil_append, hush]
      repeat ((first | refine wq_skip (by rfl) ?_ | (refine wqL (hu := by first | exact undID | exact undLabel) (hi := by (try simp only [rowOf_size, idC_size]); first | exact sizeID | exact sizeLabel) (h := ?_); (try simp only [Act.put, k1, k2, k3]); (try simp only [← labV_eq, ← idV_eq])) | refine wqLC (hu := by first | exact undStr | exact undByteI | exact undInt | exact undU64) (h := ?_) | ((with_reducible show wpQuiet _ _ _ _ (⟨_, .call _, _, _, _, _⟩ :: _) _); refine wq_ask (by rfl) ?_; apply Exists.intro; refine ⟨?_, ?_⟩; (focus (intro w hC; go_simp; first | (go_at_call 16; exact (hi _).mono fun e w' h => ⟨h.1, hC.call h.2⟩)))) | (refine wq_build (by rfl) (built_zeroL) rfl ?_; (try simp only [Act.put, k1, k2, k3]); (try simp only [← labV_eq, ← idV_eq])) | (refine wq_build (by rfl) (built_lab1 _) rfl ?_; (try simp only [Act.put, k1, k2, k3]); (try simp only [← labV_eq, ← idV_eq])) | refine wqS (h := ?_)); (try simp only [k4, k5, k6, Act.put, k1, k2, k3]))
      refine wpQuiet_nil ?_; clear hm; intro w7 hm
      go_wp2_with ((first | refine wpList_skip (by rfl) ?_ | (refine wlL (hm := hm) (hu := by first | exact undID | exact undLabel) (hi := by (try simp only [rowOf_size, idC_size]); first | exact sizeID | exact sizeLabel) (h := ?_); (try simp only [Act.put, k1, k2, k3]); (try simp only [← labV_eq, ← idV_eq])) | refine wlLC (hm := hm) (hu := by first | exact undStr | exact undByteI | exact undInt | exact undU64) (h := ?_) | (refine wlS (hm := hm) (hv := (by first | rfl | exact idV_eq _ | exact labV_eq _ _ | exact rectV_eq _ _ _ _)) (hi := by (try simp only [rowOf_size, idC_size]); first | exact sizeID | exact sizeLabel) (hs := by first | (simp only [rowOf_size, idC_size]; done) | rfl) (h1 := by first | rfl | exact idC_one _ | exact rowOf_one _ _ (fun _ _ => rfl) | (simp only [List.size_toArray, List.length_cons, List.all_toArray', List.all_cons, List.all_nil, Value.oneCell', Bool.and_true, Bool.and_self]; done) | (simp [Value.oneCell']; done)) (h := ?_); clear hm; intro w1 hm; (try simp only [rowOf_set, k1, k2, k3, Value.cells, Act.eval, k7, k8, k9, kA, Option.getD_some] at hm)) | (refine wlSC (hm := hm) (hi := by first | exact sizeStr | exact sizeByteI | exact sizeInt | exact sizeU64) (ho := by first | decide | (simp only [rowOf_size, idC_size]; omega) | (simp; done)) (h := ?_); clear hm; intro w1 hm; (try simp only [rowOf_set, k1, k2, k3, Value.cells, Act.eval, k7, k8, k9, kA, Option.getD_some] at hm)) | (refine wlA (hz := by first | exact zeroID | exact zeroLabel) (hm := hm) (h := ?_); clear hm; intro b1 w1 hm; (try simp only [rowOf_set, k1, k2, k3, Value.cells, Act.eval, k7, k8, k9, kA, Option.getD_some] at hm)) | (refine wl_box (by rfl) rfl (by first | exact idV_cells _ | exact labV_cells _ _ | exact rectV_cells _ _ _ _ | rfl) hm ?_; clear hm; intro b1 w1 hm) | (refine wl_build (by rfl) (built_zeroL) rfl ?_; (try simp only [Act.put, k1, k2, k3]); (try simp only [← labV_eq, ← idV_eq])) | (refine wl_build (by rfl) (built_lab1 _) rfl ?_; (try simp only [Act.put, k1, k2, k3]); (try simp only [← labV_eq, ← idV_eq])) | (go_at_call 16; refine (hi _).mono ?_; rintro e w1 ⟨rfl, hx⟩; replace hm := hm.call hx; clear hx) | (with_reducible first | refine stBs ?_ | refine stMs ?_ | refine stAp ?_ | refine stCo ?_)); (try simp only [k4, k5, k6, Act.put, k1, k2, k3]))
      go_roundw
      case rel => exact ⟨k + 1, by omega, by go_num, by rw [HV.out]; exact hm⟩
      case measure => (simp [intOf]; try omega)
    · obtain rfl : k = c := by omega
      have hi := Hi.out
      obtain ⟨v, hv⟩ : ∃ v, labAcc F k = v := ⟨_, rfl⟩
      have hrs := HRes.out
      have hen := HEnd.out
      have hsl := HSL.out
      rw [hv] at hm hi hrs
      have HR2 := hid hrs
      have HE2 := hid hen
      clear hrs hen hk hkc hv
      cases q with
      | false =>
        have hrs := HR2.out
        have hen := HE2.out
        rw [if_neg (by decide), labV_eq 0 0] at hrs
        rw [if_neg (by decide)] at hen
        subst hen
        have HR3 := hid hrs
        clear hrs HR2 HRes HE2 HEnd
        go_wp2_with ((first | refine wpList_skip (by rfl) ?_ | (refine wlL (hm := hm) (hu := by first | exact undID | exact undLabel) (hi := by (try simp only [rowOf_size, idC_size]); first | exact sizeID | exact sizeLabel) (h := ?_); (try simp only [Act.put, k1, k2, k3]); (try simp only [← labV_eq, ← idV_eq])) | refine wlLC (hm := hm) (hu := by first | exact undStr | exact undByteI | exact undInt | exact undU64) (h := ?_) | (refine wlS (hm := hm) (hv := (by first | rfl | exact idV_eq _ | exact labV_eq _ _ | exact rectV_eq _ _ _ _)) (hi := by (try simp only [rowOf_size, idC_size]); first | exact sizeID | exact sizeLabel) (hs := by first | (simp only [rowOf_size, idC_size]; done) | rfl) (h1 := by first | rfl | exact idC_one _ | exact rowOf_one _ _ (fun _ _ => rfl) | (simp only [List.size_toArray, List.length_cons, List.all_toArray', List.all_cons, List.all_nil, Value.oneCell', Bool.and_true, Bool.and_self]; done) | (simp [Value.oneCell']; done)) (h := ?_); clear hm; intro w1 hm; (try simp only [rowOf_set, k1, k2, k3, Value.cells, Act.eval, k7, k8, k9, kA, Option.getD_some] at hm)) | (refine wlSC (hm := hm) (hi := by first | exact sizeStr | exact sizeByteI | exact sizeInt | exact sizeU64) (ho := by first | decide | (simp only [rowOf_size, idC_size]; omega) | (simp; done)) (h := ?_); clear hm; intro w1 hm; (try simp only [rowOf_set, k1, k2, k3, Value.cells, Act.eval, k7, k8, k9, kA, Option.getD_some] at hm)) | (refine wlA (hz := by first | exact zeroID | exact zeroLabel) (hm := hm) (h := ?_); clear hm; intro b1 w1 hm; (try simp only [rowOf_set, k1, k2, k3, Value.cells, Act.eval, k7, k8, k9, kA, Option.getD_some] at hm)) | (refine wl_box (by rfl) rfl (by first | exact idV_cells _ | exact labV_cells _ _ | exact rectV_cells _ _ _ _ | rfl) hm ?_; clear hm; intro b1 w1 hm) | (refine wl_build (by rfl) (built_zeroL) rfl ?_; (try simp only [Act.put, k1, k2, k3]); (try simp only [← labV_eq, ← idV_eq])) | (refine wl_build (by rfl) (built_lab1 _) rfl ?_; (try simp only [Act.put, k1, k2, k3]); (try simp only [← labV_eq, ← idV_eq])) | (go_at_call 16; refine (hi _).mono ?_; rintro e w1 ⟨rfl, hx⟩; replace hm := hm.call hx; clear hx) | (with_reducible first | refine stBs ?_ | refine stMs ?_ | refine stAp ?_ | refine stCo ?_)); (try simp only [k4, k5, k6, Act.put, k1, k2, k3]))
        refine bodyPost_ret (results_row_tmp (h := rfl) _ _ _ _ _ _ _ rfl (hm.heap (i := 1) rfl) undLabel rfl (by first | exact sizeLabel | (simp only [rowOf_size, idC_size]; exact sizeLabel))) rfl ?_
        exact ⟨by rw [← HR3.out] <;> rfl, hm.tail.tail⟩
      | true =>
        have hrs := HR2.out
        have hen := HE2.out
        rw [if_pos rfl, labV_eq (n : Int) v] at hrs
        rw [if_pos rfl] at hen
        subst hen
        have HR3 := hid hrs
        clear hrs HR2 HRes HE2 HEnd
        go_wp2_with ((first | refine wpList_skip (by rfl) ?_ | (refine wlL (hm := hm) (hu := by first | exact undID | exact undLabel) (hi := by (try simp only [rowOf_size, idC_size]); first | exact sizeID | exact sizeLabel) (h := ?_); (try simp only [Act.put, k1, k2, k3]); (try simp only [← labV_eq, ← idV_eq])) | refine wlLC (hm := hm) (hu := by first | exact undStr | exact undByteI | exact undInt | exact undU64) (h := ?_) | (refine wlS (hm := hm) (hv := (by first | rfl | exact idV_eq _ | exact labV_eq _ _ | exact rectV_eq _ _ _ _)) (hi := by (try simp only [rowOf_size, idC_size]); first | exact sizeID | exact sizeLabel) (hs := by first | (simp only [rowOf_size, idC_size]; done) | rfl) (h1 := by first | rfl | exact idC_one _ | exact rowOf_one _ _ (fun _ _ => rfl) | (simp only [List.size_toArray, List.length_cons, List.all_toArray', List.all_cons, List.all_nil, Value.oneCell', Bool.and_true, Bool.and_self]; done) | (simp [Value.oneCell']; done)) (h := ?_); clear hm; intro w1 hm; (try simp only [rowOf_set, k1, k2, k3, Value.cells, Act.eval, k7, k8, k9, kA, Option.getD_some] at hm)) | (refine wlSC (hm := hm) (hi := by first | exact sizeStr | exact sizeByteI | exact sizeInt | exact sizeU64) (ho := by first | decide | (simp only [rowOf_size, idC_size]; omega) | (simp; done)) (h := ?_); clear hm; intro w1 hm; (try simp only [rowOf_set, k1, k2, k3, Value.cells, Act.eval, k7, k8, k9, kA, Option.getD_some] at hm)) | (refine wlA (hz := by first | exact zeroID | exact zeroLabel) (hm := hm) (h := ?_); clear hm; intro b1 w1 hm; (try simp only [rowOf_set, k1, k2, k3, Value.cells, Act.eval, k7, k8, k9, kA, Option.getD_some] at hm)) | (refine wl_box (by rfl) rfl (by first | exact idV_cells _ | exact labV_cells _ _ | exact rectV_cells _ _ _ _ | rfl) hm ?_; clear hm; intro b1 w1 hm) | (refine wl_build (by rfl) (built_zeroL) rfl ?_; (try simp only [Act.put, k1, k2, k3]); (try simp only [← labV_eq, ← idV_eq])) | (refine wl_build (by rfl) (built_lab1 _) rfl ?_; (try simp only [Act.put, k1, k2, k3]); (try simp only [← labV_eq, ← idV_eq])) | (go_at_call 16; refine (hi _).mono ?_; rintro e w1 ⟨rfl, hx⟩; replace hm := hm.call hx; clear hx) | (with_reducible first | refine stBs ?_ | refine stMs ?_ | refine stAp ?_ | refine stCo ?_)); (try simp only [k4, k5, k6, Act.put, k1, k2, k3]))
        refine bodyPost_ret (results_row_tmp (h := rfl) _ _ _ _ _ _ _ rfl (hm.heap (i := 1) rfl) undLabel rfl (by first | exact sizeLabel | (simp only [rowOf_size, idC_size]; exact sizeLabel))) rfl ?_
        exact ⟨by rw [← HR3.out] <;> rfl, hm.tail.tail⟩
end Go.Proofs.Ytijkmbebfodhdaa
