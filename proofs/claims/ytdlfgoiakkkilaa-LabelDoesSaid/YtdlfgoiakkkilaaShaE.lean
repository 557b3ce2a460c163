/-
  Sums: the document's Sum.
-/
import Derived.Test.YtdlfgoiakkkilaaShaC
namespace Go.Proofs.Ytdlfgoiakkkilaa
open Go.RowKit
set_option linter.unusedSimpArgs false
set_option linter.unusedVariables false
set_option maxHeartbeats 1000000
set_option maxRecDepth 20000
attribute [local irreducible] wpQuiet wpList wpAnyH Calls

theorem bytesB_mid (n m k : Nat) (f : Nat → Nat) (h : m + k ≤ n) : (bytesB n f).extract m (m + k) = bytesB k fun i => f (m + i) := by
  apply ByteArray.ext
  apply Array.toList_inj.1
  rw [ByteArray.data_extract, Array.toList_extract, bytesB_toList, bytesB_toList, List.extract_eq_take_drop]
  apply List.ext_getElem?
  intro i
  by_cases hi : i < k
  · simp [List.getElem?_take, hi, List.getElem?_map, List.getElem?_range, show m + i < n from by omega]
  · rw [List.getElem?_eq_none (by simp; omega), List.getElem?_eq_none (by simp; omega)]
theorem slice_mid {s t : ByteArray} {m n : Nat} (hmn : m ≤ n) (hn : n ≤ s.size) (h : s.extract m n = t) (w : World) : (Instr.slice 9 (.string s) (some (.int .i64 (m : Int))) (some (.int .i64 (n : Int))) none).run Try.prog w = .ok (.string t) w := by
  rw [run_slice_string_if (h := undS), if_pos ⟨by omega, by omega⟩, if_pos ⟨by omega, by omega⟩, Int.toNat_natCast, Int.toNat_natCast, h]

theorem refSum_long (s : ByteArray) (h : 4096 < s.size) (h1 : s.size < 2 ^ 62) (w : World) :
    Calls Try.prog 46 #[.string s] w fun e w' => e = .returned (.tuple #[idV 0, .int .i64 2]) ∧ Ext w w' := by
  have hpad := refPad_long s h h1
  rw [idV_zero]
  go_enter Try.func46, Try.ntmps46
  have hm := Mem.refl w []
  go_wp2_with (with_reducible first | refine stAl ?_ | refine stBo ?_ | refine stLo ?_ | refine stSo ?_ | refine stBu ?_ | refine stBs ?_ | refine stMs ?_ | refine stAp ?_ | refine stCo ?_); refine Stop.go (wl_alloc (by rfl) zeroID rfl hm ?_); clear hm; intro b2 w2 hm; simp only [Act.put, k1, k2, k3]; (try simp only [rowOf_set, k1, k2, k3, Value.cells, Act.eval, k7, k8, k9, kA, Option.getD_some] at hm)
  go_wp2_with (with_reducible first | refine stAl ?_ | refine stBo ?_ | refine stLo ?_ | refine stSo ?_ | refine stBu ?_ | refine stBs ?_ | refine stMs ?_ | refine stAp ?_ | refine stCo ?_); refine (hpad _).mono ?_; rintro e w3 ⟨rfl, hx⟩; replace hm := hm.call hx; clear hx
  go_wp2_with (with_reducible first | refine stAl ?_ | refine stBo ?_ | refine stLo ?_ | refine stSo ?_ | refine stBu ?_ | refine stBs ?_ | refine stMs ?_ | refine stAp ?_ | refine stCo ?_); refine Stop.go (wl_build (by rfl) (built_id) (by simp [Act.eval]) ?_); simp only [Act.put, k1, k2, k3]
  go_wp2_with (with_reducible first | refine stAl ?_ | refine stBo ?_ | refine stLo ?_ | refine stSo ?_ | refine stBu ?_ | refine stBs ?_ | refine stMs ?_ | refine stAp ?_ | refine stCo ?_); refine Stop.go (wl_store (i := 0) (by rfl) hm rfl rfl rfl (by first | rfl | exact idV_eq _ | exact labV_eq _ _ | exact rectV_eq _ _ _ _) (by first | exact sizeID | (simp only [rowOf_size, bytR_size, idC_size]; exact sizeID)) (by first | (simp only [rowOf_size, bytR_size, idC_size]; done) | rfl) (by first | rfl | (simp only [List.size_toArray, List.length_cons, List.all_toArray', List.all_cons, List.all_nil, Value.oneCell', Bool.and_true, Bool.and_self]; done) | (simp [Value.oneCell']; done) | exact rowOf_one _ _ (fun _ _ => rfl) | exact idC_one _ | (exact rowOf_one _ _ (by intro i _; repeat (first | rfl | split)))) ?_); clear hm; intro w5 hm; simp only [Act.put, k1, k2, k3]; simp only [rowOf_set, k1, k2, k3, Value.cells, Act.eval, k7, k8, k9, kA, Option.getD_some] at hm
  go_wp2_with ((first | refine wpList_skip (by rfl) ?_ | (refine wlL (hm := hm) (hu := by first | exact undState | exact undID) (hi := by (try simp only [rowOf_size, bytR_size, idC_size]); first | exact sizeState | exact sizeID) (h := ?_); (try simp only [Act.put, k1, k2, k3]); (try simp only [← idV_eq])) | refine wlLC (hm := hm) (hv := by first | exact HCELL.out | rfl) (hu := by first | exact undU32 | exact undByteI) (h := ?_) | (refine wlS (hm := hm) (hv := (by first | rfl | exact idV_eq _ | exact labV_eq _ _ | exact rectV_eq _ _ _ _)) (hi := by (try simp only [rowOf_size, bytR_size, idC_size]); first | exact sizeState | exact sizeID) (hs := by first | (simp only [rowOf_size, bytR_size, idC_size]; done) | rfl) (h1 := by first | rfl | exact idC_one _ | exact rowOf_one _ _ (fun _ _ => rfl) | (simp only [List.size_toArray, List.length_cons, List.all_toArray', List.all_cons, List.all_nil, Value.oneCell', Bool.and_true, Bool.and_self]; done) | (simp [Value.oneCell']; done)) (h := ?_); clear hm; intro w1 hm; (try simp only [rowOf_set, k1, k2, k3, Value.cells, Act.eval, k7, k8, k9, kA, Option.getD_some] at hm)) | (refine wlSC (hm := hm) (hi := by first | exact sizeU32 | exact sizeByteI) (ho := by first | decide | (simp only [rowOf_size, bytR_size, idC_size]; omega) | (simp; done)) (h := ?_); clear hm; intro w1 hm; (try simp only [rowOf_set, k1, k2, k3, Value.cells, Act.eval, k7, k8, k9, kA, Option.getD_some] at hm)) | (refine wlA (hz := by first | exact zeroState | exact zeroID) (hm := hm) (h := ?_); clear hm; intro b1 w1 hm; (try simp only [rowOf_set, k1, k2, k3, Value.cells, Act.eval, k7, k8, k9, kA, Option.getD_some] at hm)) | (refine wl_box (by rfl) rfl (by first | exact idV_cells _ | exact labV_cells _ _ | exact rectV_cells _ _ _ _ | rfl) hm ?_; clear hm; intro b1 w1 hm) | (refine wl_build (by rfl) (built_id) rfl ?_; (try simp only [Act.put, k1, k2, k3]); (try simp only [← idV_eq])) | (with_reducible first | refine stBs ?_ | refine stMs ?_ | refine stAp ?_ | refine stCo ?_)); (try simp only [k4, k5, k6, Act.put, k1, k2, k3]))
  refine bodyPost_ret (results_row_tmp (h := rfl) _ _ _ _ _ _ _ rfl (hm.heap (i := 0) rfl) undID rfl (by first | exact sizeID | (simp only [rowOf_size, bytR_size, idC_size]; exact sizeID))) rfl ?_
  exact ⟨by unfold rowOf; rfl, hm.ext⟩
theorem refSum_ok (s : ByteArray) (h : s.size ≤ 4096) (w : World) :
    Calls Try.prog 46 #[.string s] w fun e w' => e = .returned (.tuple #[idV (sumS s), .int .i64 0]) ∧ Ext w w' := by
  have hpad := refPad_ok s h
  rw [padB_blocks] at hpad
  unfold sumS
  have hg := padF_lt s.size (byteAt s) (fun j _ => byteAt_lt s j)
  obtain ⟨M, hM⟩ : ∃ M, (s.size + 8) / 64 + 1 = M := ⟨_, rfl⟩
  rw [hM] at hpad ⊢
  have hM1 : 0 < M := by omega
  have hM2 : M < 1000 := by omega
  generalize padF s.size (byteAt s) = g at *
  clear hM
  have HG := hid hg
  clear hg
  have hbz := bytesB_size (64 * M) g
  obtain ⟨B, hB⟩ : ∃ B, bytesB (64 * M) g = B := ⟨_, rfl⟩
  rw [hB] at hpad hbz
  have HB := hid hB
  clear hB
  go_enter Try.func46, Try.ntmps46
  have hm := Mem.refl w []
  go_wp2_with (with_reducible first | refine stAl ?_ | refine stBo ?_ | refine stLo ?_ | refine stSo ?_ | refine stBu ?_ | refine stBs ?_ | refine stMs ?_ | refine stAp ?_ | refine stCo ?_); refine Stop.go (wl_alloc (by rfl) zeroID rfl hm ?_); clear hm; intro b2 w2 hm; simp only [Act.put, k1, k2, k3]; (try simp only [rowOf_set, k1, k2, k3, Value.cells, Act.eval, k7, k8, k9, kA, Option.getD_some] at hm)
  go_wp2_with (with_reducible first | refine stAl ?_ | refine stBo ?_ | refine stLo ?_ | refine stSo ?_ | refine stBu ?_ | refine stBs ?_ | refine stMs ?_ | refine stAp ?_ | refine stCo ?_); refine (hpad _).mono ?_; rintro e w3 ⟨rfl, hx⟩; replace hm := hm.call hx; clear hx
  go_wp2_with (with_reducible first | refine stAl ?_ | refine stBo ?_ | refine stLo ?_ | refine stSo ?_ | refine stBu ?_ | refine stBs ?_ | refine stMs ?_ | refine stAp ?_ | refine stCo ?_)
  refine (refStart_c _).mono ?_; rintro e w1 ⟨rfl, hx⟩; replace hm := hm.call hx; clear hx; rw [stV_eq]
  go_wp2_with (with_reducible first | refine stAl ?_ | refine stBo ?_ | refine stLo ?_ | refine stSo ?_ | refine stBu ?_ | refine stBs ?_ | refine stMs ?_ | refine stAp ?_ | refine stCo ?_); refine Stop.go (wl_alloc (by rfl) zeroState rfl hm ?_); clear hm; intro b6 w6 hm; simp only [Act.put, k1, k2, k3]; (try simp only [rowOf_set, k1, k2, k3, Value.cells, Act.eval, k7, k8, k9, kA, Option.getD_some] at hm)
  go_wp2_with ((first | refine wpList_skip (by rfl) ?_ | (refine wlL (hm := hm) (hu := by first | exact undState | exact undID) (hi := by (try simp only [rowOf_size, bytR_size, idC_size]); first | exact sizeState | exact sizeID) (h := ?_); (try simp only [Act.put, k1, k2, k3]); (try simp only [← idV_eq])) | refine wlLC (hm := hm) (hv := by first | exact HCELL.out | rfl) (hu := by first | exact undU32 | exact undByteI) (h := ?_) | (refine wlS (hm := hm) (hv := (by first | rfl | exact idV_eq _ | exact labV_eq _ _ | exact rectV_eq _ _ _ _)) (hi := by (try simp only [rowOf_size, bytR_size, idC_size]); first | exact sizeState | exact sizeID) (hs := by first | (simp only [rowOf_size, bytR_size, idC_size]; done) | rfl) (h1 := by first | rfl | exact idC_one _ | exact rowOf_one _ _ (fun _ _ => rfl) | (simp only [List.size_toArray, List.length_cons, List.all_toArray', List.all_cons, List.all_nil, Value.oneCell', Bool.and_true, Bool.and_self]; done) | (simp [Value.oneCell']; done)) (h := ?_); clear hm; intro w1 hm; (try simp only [rowOf_set, k1, k2, k3, Value.cells, Act.eval, k7, k8, k9, kA, Option.getD_some] at hm)) | (refine wlSC (hm := hm) (hi := by first | exact sizeU32 | exact sizeByteI) (ho := by first | decide | (simp only [rowOf_size, bytR_size, idC_size]; omega) | (simp; done)) (h := ?_); clear hm; intro w1 hm; (try simp only [rowOf_set, k1, k2, k3, Value.cells, Act.eval, k7, k8, k9, kA, Option.getD_some] at hm)) | (refine wlA (hz := by first | exact zeroState | exact zeroID) (hm := hm) (h := ?_); clear hm; intro b1 w1 hm; (try simp only [rowOf_set, k1, k2, k3, Value.cells, Act.eval, k7, k8, k9, kA, Option.getD_some] at hm)) | (refine wl_box (by rfl) rfl (by first | exact idV_cells _ | exact labV_cells _ _ | exact rectV_cells _ _ _ _ | rfl) hm ?_; clear hm; intro b1 w1 hm) | (refine wl_build (by rfl) (built_id) rfl ?_; (try simp only [Act.put, k1, k2, k3]); (try simp only [← idV_eq])) | (with_reducible first | refine stBs ?_ | refine stMs ?_ | refine stAp ?_ | refine stCo ?_)); (try simp only [k4, k5, k6, Act.put, k1, k2, k3]))
  go_loopw [7] (fun vi wr => ∃ i : Nat, i ≤ M ∧ vi = .int .i64 ((64 * i : Nat) : Int) ∧ Mem w [] [(b6, .cells (stAt g i).val.cells 52 (0, 0)), (b2, .cells (rowOf 20 fun _ => .int .u8 0) 29 (0, 0))] wr)
    (fun vi _ => (64 * M - intOf vi).toNat)
  case atStart => exact ⟨0, by omega, rfl, by rw [stAt, St.val_eq]; exact hm⟩
  case round =>
    clear hm
    obtain ⟨i, hi, rfl, hm⟩ := hrel
    have hu := stAt_ok g i
    have HS := hid (show stAt g (i + 1) = stepM (fun j => g (64 * i + j)) (stAt g i) from rfl)
    obtain ⟨u, hu'⟩ : ∃ u, stAt g i = u := ⟨_, rfl⟩
    rw [hu'] at hu HS hm
    have HU := hid hu'
    clear hu'
    rw [St.val_eq] at hm
    by_cases hlt : i < M
    · have hst := refStep_ok u hu (fun j => g (64 * i + j)) (fun j _ => HG.out _)
      rw [← HS.out, St.val_eq] at hst
      have hv := St.val_eq (stAt g (i + 1))
      rw [hv] at hst
      obtain ⟨p, hp⟩ : ∃ p, 64 * i = p := ⟨_, rfl⟩
      obtain ⟨p2, hp2⟩ : ∃ p2, p + 64 = p2 := ⟨_, rfl⟩
      have c1 := bytesB_mid (64 * M) (64 * i) 64 g (by omega)
      obtain ⟨q, hq⟩ : ∃ q, (bytesB 64 fun j => g (64 * i + j)) = q := ⟨_, rfl⟩
      rw [hq, HB.out, hp, hp2] at c1
      rw [hq] at hst
      have hsl : ∀ w, (Instr.slice 9 (.string B) (some (.int .i64 (p : Int))) (some (.int .i64 (p2 : Int))) none).run Try.prog w = .ok (.string q) w := slice_mid (by omega) (by omega) c1
      obtain ⟨v, hvv⟩ : ∃ v, stAt g (i + 1) = v := ⟨_, rfl⟩
      rw [hvv] at hst HS
      have HN := hid hvv
      have HP2 := hid (show p2 = 64 * (i + 1) from by omega)
      have f1 : IntKind.i64.wrap ((p : Int) + 64) = (p2 : Int) := by rw [wrap_i64 (by omega) (by omega)]; omega
      have d1 : (p : Int) < (64 * M : Nat) := by omega
      rw [hp]
      have hsz2 : p2 ≤ 64 * M := by omega
      have HI := hid hp
      clear hp hq c1 hvv hv
      go_wp2_with ((first | refine wpList_skip (by rfl) ?_ | (refine wlL (hm := hm) (hu := by first | exact undState | exact undID) (hi := by (try simp only [rowOf_size, bytR_size, idC_size]); first | exact sizeState | exact sizeID) (h := ?_); (try simp only [Act.put, k1, k2, k3]); (try simp only [← idV_eq])) | refine wlLC (hm := hm) (hv := by first | exact HCELL.out | rfl) (hu := by first | exact undU32 | exact undByteI) (h := ?_) | (refine wlS (hm := hm) (hv := (by first | rfl | exact idV_eq _ | exact labV_eq _ _ | exact rectV_eq _ _ _ _)) (hi := by (try simp only [rowOf_size, bytR_size, idC_size]); first | exact sizeState | exact sizeID) (hs := by first | (simp only [rowOf_size, bytR_size, idC_size]; done) | rfl) (h1 := by first | rfl | exact idC_one _ | exact rowOf_one _ _ (fun _ _ => rfl) | (simp only [List.size_toArray, List.length_cons, List.all_toArray', List.all_cons, List.all_nil, Value.oneCell', Bool.and_true, Bool.and_self]; done) | (simp [Value.oneCell']; done)) (h := ?_); clear hm; intro w1 hm; (try simp only [rowOf_set, k1, k2, k3, Value.cells, Act.eval, k7, k8, k9, kA, Option.getD_some] at hm)) | (refine wlSC (hm := hm) (hi := by first | exact sizeU32 | exact sizeByteI) (ho := by first | decide | (simp only [rowOf_size, bytR_size, idC_size]; omega) | (simp; done)) (h := ?_); clear hm; intro w1 hm; (try simp only [rowOf_set, k1, k2, k3, Value.cells, Act.eval, k7, k8, k9, kA, Option.getD_some] at hm)) | (refine wlA (hz := by first | exact zeroState | exact zeroID) (hm := hm) (h := ?_); clear hm; intro b1 w1 hm; (try simp only [rowOf_set, k1, k2, k3, Value.cells, Act.eval, k7, k8, k9, kA, Option.getD_some] at hm)) | (refine wl_box (by rfl) rfl (by first | exact idV_cells _ | exact labV_cells _ _ | exact rectV_cells _ _ _ _ | rfl) hm ?_; clear hm; intro b1 w1 hm) | (refine wl_build (by rfl) (built_id) rfl ?_; (try simp only [Act.put, k1, k2, k3]); (try simp only [← idV_eq])) | (with_reducible first | refine stBs ?_ | refine stMs ?_ | refine stAp ?_ | refine stCo ?_)); (try simp only [k4, k5, k6, Act.put, k1, k2, k3]))
      refine wp_region_held_drew (by kernel_rfl) hm.drew (fun hS => ?_); replace hm := hm.drew
      refine whS (i := 1) (hS := hS) (h := ?_)
      simp only [k4, k5, k6, Act.put, k1, k2, k3]
      refine whS (i := 2) (hS := hS) (h := ?_)
      simp only [k4, k5, k6, Act.put, k1, k2, k3]
      refine whS (i := 3) (hS := hS) (h := ?_)
      simp only [k4, k5, k6, Act.put, k1, k2, k3]
      refine whS (i := 4) (hS := hS) (h := ?_)
      simp only [k4, k5, k6, Act.put, k1, k2, k3]
      refine whS (i := 5) (hS := hS) (h := ?_)
      simp only [k4, k5, k6, Act.put, k1, k2, k3]
      refine whS (i := 0) (hS := hS) (h1 := ld_row (i := 0) rfl rfl undState rfl (by first | exact sizeState | (simp only [rowOf_size, bytR_size, idC_size]; exact sizeState))) (h := ?_); simp only [k4, k5, k6, Act.put, k1, k2, k3]; (try simp only [← idV_eq])
      refine wh_ready2 (i := 6) (j := 10) (by kernel_rfl) rfl rfl (by rfl) (by rfl) (fun K' hK => ?_) (fun K' hK => ?_)
      · go_simp; refine (hst _).mono ?_; rintro e w3 ⟨rfl, hx⟩; replace hm := hm.call hx; clear hx hS; have hS := hm; refine hK.out _ _ hS ?_; clear hK K'; (try (simp only [k4, k5, k6, Act.put, k1, k2, k3]))
        refine whS (i := 7) (hS := hS) (h := ?_)
        simp only [k4, k5, k6, Act.put, k1, k2, k3]
        refine whS (i := 8) (hS := hS) (h := ?_)
        simp only [k4, k5, k6, Act.put, k1, k2, k3]
        refine whS (i := 9) (hS := hS) (h := ?_)
        simp only [k4, k5, k6, Act.put, k1, k2, k3]
        refine wh_one (i := 10) (by kernel_rfl) rfl (by rfl) (fun K' hK => ?_); refine ow_alloc zeroState rfl hm ?_; clear hm hS; intro b8 w4 hm; have hS := hm.tail; refine hK.out _ _ hS ?_; clear hK K'; (try (simp only [k4, k5, k6, Act.put, k1, k2, k3]))
        refine wh_one (i := 11) (by kernel_rfl) rfl (by rfl) (fun K' hK => ?_); refine ow_store (i := 0) hm rfl rfl rfl rfl sizeState rfl (by simp [Value.oneCell']) ?_; clear hm hS; intro w5 hm; simp only [List.set_cons_zero, List.set_cons_succ] at hm; have hS := hm.tail; refine hK.out _ _ hS ?_; clear hK K'; (try (simp only [k4, k5, k6, Act.put, k1, k2, k3]))
        refine whS (i := 12) (hS := hS) (h := ?_)
        simp only [k4, k5, k6, Act.put, k1, k2, k3]
        refine wpAnyH_done (by kernel_rfl) ?_ _
        go_wp2_with ((first | refine wpList_skip (by rfl) ?_ | (refine wlL (hm := hm) (hu := by first | exact undState | exact undID) (hi := by (try simp only [rowOf_size, bytR_size, idC_size]); first | exact sizeState | exact sizeID) (h := ?_); (try simp only [Act.put, k1, k2, k3]); (try simp only [← idV_eq])) | refine wlLC (hm := hm) (hv := by first | exact HCELL.out | rfl) (hu := by first | exact undU32 | exact undByteI) (h := ?_) | (refine wlS (hm := hm) (hv := (by first | rfl | exact idV_eq _ | exact labV_eq _ _ | exact rectV_eq _ _ _ _)) (hi := by (try simp only [rowOf_size, bytR_size, idC_size]); first | exact sizeState | exact sizeID) (hs := by first | (simp only [rowOf_size, bytR_size, idC_size]; done) | rfl) (h1 := by first | rfl | exact idC_one _ | exact rowOf_one _ _ (fun _ _ => rfl) | (simp only [List.size_toArray, List.length_cons, List.all_toArray', List.all_cons, List.all_nil, Value.oneCell', Bool.and_true, Bool.and_self]; done) | (simp [Value.oneCell']; done)) (h := ?_); clear hm; intro w1 hm; (try simp only [rowOf_set, k1, k2, k3, Value.cells, Act.eval, k7, k8, k9, kA, Option.getD_some] at hm)) | (refine wlSC (hm := hm) (hi := by first | exact sizeU32 | exact sizeByteI) (ho := by first | decide | (simp only [rowOf_size, bytR_size, idC_size]; omega) | (simp; done)) (h := ?_); clear hm; intro w1 hm; (try simp only [rowOf_set, k1, k2, k3, Value.cells, Act.eval, k7, k8, k9, kA, Option.getD_some] at hm)) | (refine wlA (hz := by first | exact zeroState | exact zeroID) (hm := hm) (h := ?_); clear hm; intro b1 w1 hm; (try simp only [rowOf_set, k1, k2, k3, Value.cells, Act.eval, k7, k8, k9, kA, Option.getD_some] at hm)) | (refine wl_box (by rfl) rfl (by first | exact idV_cells _ | exact labV_cells _ _ | exact rectV_cells _ _ _ _ | rfl) hm ?_; clear hm; intro b1 w1 hm) | (refine wl_build (by rfl) (built_id) rfl ?_; (try simp only [Act.put, k1, k2, k3]); (try simp only [← idV_eq])) | (with_reducible first | refine stBs ?_ | refine stMs ?_ | refine stAp ?_ | refine stCo ?_)); (try simp only [k4, k5, k6, Act.put, k1, k2, k3]))
        go_roundw
        case rel => exact ⟨i + 1, by omega, by rw [HP2.out], by rw [HN.out, St.val_eq]; exact hm.tail⟩
        case measure => (have h1 := HI.out; have h2 := HP2.out; simp only [intOf]; omega)
      · refine ow_alloc zeroState rfl hm ?_; clear hm hS; intro b8 w4 hm; have hS := hm.tail; refine hK.out _ _ hS ?_; clear hK K'; (try (simp only [k4, k5, k6, Act.put, k1, k2, k3]))
        refine wh_one (i := 6) (by kernel_rfl) rfl (by rfl) (fun K' hK => ?_)
        go_simp; refine (hst _).mono ?_; rintro e w3 ⟨rfl, hx⟩; replace hm := hm.call hx; clear hx hS; have hS := hm.tail; refine hK.out _ _ hS ?_; clear hK K'; (try (simp only [k4, k5, k6, Act.put, k1, k2, k3]))
        refine whS (i := 7) (hS := hS) (h := ?_)
        simp only [k4, k5, k6, Act.put, k1, k2, k3]
        refine whS (i := 8) (hS := hS) (h := ?_)
        simp only [k4, k5, k6, Act.put, k1, k2, k3]
        refine whS (i := 9) (hS := hS) (h := ?_)
        simp only [k4, k5, k6, Act.put, k1, k2, k3]
        refine wh_one (i := 11) (by kernel_rfl) rfl (by rfl) (fun K' hK => ?_); refine ow_store (i := 0) hm rfl rfl rfl rfl sizeState rfl (by simp [Value.oneCell']) ?_; clear hm hS; intro w5 hm; simp only [List.set_cons_zero, List.set_cons_succ] at hm; have hS := hm.tail; refine hK.out _ _ hS ?_; clear hK K'; (try (simp only [k4, k5, k6, Act.put, k1, k2, k3]))
        refine whS (i := 12) (hS := hS) (h := ?_)
        simp only [k4, k5, k6, Act.put, k1, k2, k3]
        refine wpAnyH_done (by kernel_rfl) ?_ _
        go_wp2_with ((first | refine wpList_skip (by rfl) ?_ | (refine wlL (hm := hm) (hu := by first | exact undState | exact undID) (hi := by (try simp only [rowOf_size, bytR_size, idC_size]); first | exact sizeState | exact sizeID) (h := ?_); (try simp only [Act.put, k1, k2, k3]); (try simp only [← idV_eq])) | refine wlLC (hm := hm) (hv := by first | exact HCELL.out | rfl) (hu := by first | exact undU32 | exact undByteI) (h := ?_) | (refine wlS (hm := hm) (hv := (by first | rfl | exact idV_eq _ | exact labV_eq _ _ | exact rectV_eq _ _ _ _)) (hi := by (try simp only [rowOf_size, bytR_size, idC_size]); first | exact sizeState | exact sizeID) (hs := by first | (simp only [rowOf_size, bytR_size, idC_size]; done) | rfl) (h1 := by first | rfl | exact idC_one _ | exact rowOf_one _ _ (fun _ _ => rfl) | (simp only [List.size_toArray, List.length_cons, List.all_toArray', List.all_cons, List.all_nil, Value.oneCell', Bool.and_true, Bool.and_self]; done) | (simp [Value.oneCell']; done)) (h := ?_); clear hm; intro w1 hm; (try simp only [rowOf_set, k1, k2, k3, Value.cells, Act.eval, k7, k8, k9, kA, Option.getD_some] at hm)) | (refine wlSC (hm := hm) (hi := by first | exact sizeU32 | exact sizeByteI) (ho := by first | decide | (simp only [rowOf_size, bytR_size, idC_size]; omega) | (simp; done)) (h := ?_); clear hm; intro w1 hm; (try simp only [rowOf_set, k1, k2, k3, Value.cells, Act.eval, k7, k8, k9, kA, Option.getD_some] at hm)) | (refine wlA (hz := by first | exact zeroState | exact zeroID) (hm := hm) (h := ?_); clear hm; intro b1 w1 hm; (try simp only [rowOf_set, k1, k2, k3, Value.cells, Act.eval, k7, k8, k9, kA, Option.getD_some] at hm)) | (refine wl_box (by rfl) rfl (by first | exact idV_cells _ | exact labV_cells _ _ | exact rectV_cells _ _ _ _ | rfl) hm ?_; clear hm; intro b1 w1 hm) | (refine wl_build (by rfl) (built_id) rfl ?_; (try simp only [Act.put, k1, k2, k3]); (try simp only [← idV_eq])) | (with_reducible first | refine stBs ?_ | refine stMs ?_ | refine stAp ?_ | refine stCo ?_)); (try simp only [k4, k5, k6, Act.put, k1, k2, k3]))
        go_roundw
        case rel => exact ⟨i + 1, by omega, by rw [HP2.out], by rw [HN.out, St.val_eq]; exact hm.tail⟩
        case measure => (have h1 := HI.out; have h2 := HP2.out; simp only [intOf]; omega)
    · obtain rfl : i = M := by omega
      have hby := refBytes_c u hu
      rw [St.val_eq] at hby
      obtain ⟨N, hN⟩ : ∃ N, idN u = N := ⟨_, rfl⟩
      rw [hN, idV_eq] at hby
      have HN := hid hN
      clear hN
      go_wp2_with ((first | refine wpList_skip (by rfl) ?_ | (refine wlL (hm := hm) (hu := by first | exact undState | exact undID) (hi := by (try simp only [rowOf_size, bytR_size, idC_size]); first | exact sizeState | exact sizeID) (h := ?_); (try simp only [Act.put, k1, k2, k3]); (try simp only [← idV_eq])) | refine wlLC (hm := hm) (hv := by first | exact HCELL.out | rfl) (hu := by first | exact undU32 | exact undByteI) (h := ?_) | (refine wlS (hm := hm) (hv := (by first | rfl | exact idV_eq _ | exact labV_eq _ _ | exact rectV_eq _ _ _ _)) (hi := by (try simp only [rowOf_size, bytR_size, idC_size]); first | exact sizeState | exact sizeID) (hs := by first | (simp only [rowOf_size, bytR_size, idC_size]; done) | rfl) (h1 := by first | rfl | exact idC_one _ | exact rowOf_one _ _ (fun _ _ => rfl) | (simp only [List.size_toArray, List.length_cons, List.all_toArray', List.all_cons, List.all_nil, Value.oneCell', Bool.and_true, Bool.and_self]; done) | (simp [Value.oneCell']; done)) (h := ?_); clear hm; intro w1 hm; (try simp only [rowOf_set, k1, k2, k3, Value.cells, Act.eval, k7, k8, k9, kA, Option.getD_some] at hm)) | (refine wlSC (hm := hm) (hi := by first | exact sizeU32 | exact sizeByteI) (ho := by first | decide | (simp only [rowOf_size, bytR_size, idC_size]; omega) | (simp; done)) (h := ?_); clear hm; intro w1 hm; (try simp only [rowOf_set, k1, k2, k3, Value.cells, Act.eval, k7, k8, k9, kA, Option.getD_some] at hm)) | (refine wlA (hz := by first | exact zeroState | exact zeroID) (hm := hm) (h := ?_); clear hm; intro b1 w1 hm; (try simp only [rowOf_set, k1, k2, k3, Value.cells, Act.eval, k7, k8, k9, kA, Option.getD_some] at hm)) | (refine wl_box (by rfl) rfl (by first | exact idV_cells _ | exact labV_cells _ _ | exact rectV_cells _ _ _ _ | rfl) hm ?_; clear hm; intro b1 w1 hm) | (refine wl_build (by rfl) (built_id) rfl ?_; (try simp only [Act.put, k1, k2, k3]); (try simp only [← idV_eq])) | (go_at_call 51; refine (hby _).mono ?_; rintro e w1 ⟨rfl, hx⟩; replace hm := hm.call hx; clear hx) | (with_reducible first | refine stBs ?_ | refine stMs ?_ | refine stAp ?_ | refine stCo ?_)); (try simp only [k4, k5, k6, Act.put, k1, k2, k3]))
      refine bodyPost_ret (results_row_tmp (h := rfl) _ _ _ _ _ _ _ rfl (hm.heap (i := 1) rfl) undID rfl (by first | exact sizeID | (simp only [rowOf_size, bytR_size, idC_size]; exact sizeID))) rfl ?_
      exact ⟨by rw [HU.out, HN.out]; first | rfl | (rw [idV_eq]; rfl), hm.ext⟩
end Go.Proofs.Ytdlfgoiakkkilaa
