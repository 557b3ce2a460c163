/-
  Sums: a text's sum; the program's Sum.
-/
import Derived.Test.YtdlfgoiakkkilaaShaB
import Derived.Test.YtdlfgoiakkkilaaShaD
import Derived.Test.YtdlfgoiakkkilaaShaQ
import Derived.Test.YtdlfgoiakkkilaaShaR
import Derived.Test.YtdlfgoiakkkilaaMem11
namespace Go.Proofs.Ytdlfgoiakkkilaa
open Go.RowKit
set_option linter.unusedSimpArgs false
set_option linter.unusedVariables false
set_option maxHeartbeats 1000000
set_option maxRecDepth 20000
attribute [local irreducible] wpQuiet wpList wpAnyH Calls

def start0 : St := ⟨1732584193, 4023233417, 2562383102, 271733878, 3285377520⟩
/-- The state behind i blocks. -/
def stAt (g : Nat → Nat) : Nat → St
  | 0 => start0
  | i + 1 => stepM (fun j => g (64 * i + j)) (stAt g i)
theorem stAt_ok (g : Nat → Nat) : ∀ i, (stAt g i).ok
  | 0 => by unfold stAt St.ok start0; decide
  | _ + 1 => St.plus_ok _ _
def byteAt (s : ByteArray) (i : Nat) : Nat := ((s.data.toList[i]?).getD 0).toNat
theorem byteAt_lt (s : ByteArray) (i : Nat) : byteAt s i < 256 := UInt8.toNat_lt _
/-- A text's sum. -/
def sumS (s : ByteArray) : Nat := idN (stAt (padF s.size (byteAt s)) ((s.size + 8) / 64 + 1))
theorem padB_blocks (s : ByteArray) : padB s = bytesB (64 * ((s.size + 8) / 64 + 1)) (padF s.size (byteAt s)) := by
  conv => lhs; rw [bytes_of s]
  rw [padB_of, padLen]
  congr 1
  omega
theorem idV_zero : idV 0 = .agg (rowOf 20 fun _ => .int .u8 0) := by
  rw [idV_eq, idC]
  congr 1
  exact rowOf_congr fun i hi => by simp [dig]
theorem built_id : Try.prog.built 29 [] = some (rowOf 20 fun _ => .int .u8 0) := by unfold rowOf; kernel_rfl
theorem blocks_cut (g : Nat → Nat) (M i : Nat) (h : i < M) : ((bytesB (64 * (M - i)) fun j => g (64 * i + j)).extract 0 64 = bytesB 64 fun j => g (64 * i + j)) ∧
    ((bytesB (64 * (M - i)) fun j => g (64 * i + j)).extract 64 (64 * (M - i)) = bytesB (64 * (M - (i + 1))) fun j => g (64 * (i + 1) + j)) := by
  refine ⟨bytesB_take _ _ _ (by omega), ?_⟩
  rw [bytesB_drop _ _ _ (by omega), show 64 * (M - i) - 64 = 64 * (M - (i + 1)) from by omega]
  exact bytesB_congr fun j hj => by rw [show 64 * i + (64 + j) = 64 * (i + 1) + j from by omega]

theorem toList_empty (p : ByteArray) : p.toList.isEmpty = decide (p = { data := #[] }) := by
  rw [← str_eq, show (({ data := #[] } : ByteArray).toList) = [] from by decide +kernel]
  cases p.toList <;> rfl
theorem sum_long (s : ByteArray) (h : 4096 < s.size) (h1 : s.size < 2 ^ 62) (w : World) :
    Calls Try.prog 19 #[.string s] w fun e w' => e = .returned (.tuple #[idV 0, .int .i64 2]) ∧ Ext w w' := by
  have hpad := pad_long s h h1
  rw [idV_zero]
  go_enter Try.func19, Try.ntmps19
  have hm := Mem.refl w []
  go_wp2_with (with_reducible first | refine stAl ?_ | refine stBo ?_ | refine stLo ?_ | refine stSo ?_ | refine stBu ?_ | refine stBs ?_ | refine stMs ?_ | refine stAp ?_ | refine stCo ?_); refine Stop.go (wl_alloc (by rfl) zeroID rfl hm ?_); clear hm; intro b2 w2 hm; simp only [Act.put, k1, k2, k3]; (try simp only [rowOf_set, k1, k2, k3, Value.cells, Act.eval, k7, k8, k9, kA, Option.getD_some] at hm)
  go_wp2_with (with_reducible first | refine stAl ?_ | refine stBo ?_ | refine stLo ?_ | refine stSo ?_ | refine stBu ?_ | refine stBs ?_ | refine stMs ?_ | refine stAp ?_ | refine stCo ?_); refine (hpad _).mono ?_; rintro e w3 ⟨rfl, hx⟩; replace hm := hm.call hx; clear hx
  go_wp2_with (with_reducible first | refine stAl ?_ | refine stBo ?_ | refine stLo ?_ | refine stSo ?_ | refine stBu ?_ | refine stBs ?_ | refine stMs ?_ | refine stAp ?_ | refine stCo ?_); refine Stop.go (wl_build (by rfl) (built_id) (by simp [Act.eval]) ?_); simp only [Act.put, k1, k2, k3]
  go_wp2_with (with_reducible first | refine stAl ?_ | refine stBo ?_ | refine stLo ?_ | refine stSo ?_ | refine stBu ?_ | refine stBs ?_ | refine stMs ?_ | refine stAp ?_ | refine stCo ?_); refine Stop.go (wl_store (i := 0) (by rfl) hm rfl rfl rfl (by first | rfl | exact idV_eq _ | exact labV_eq _ _ | exact rectV_eq _ _ _ _) (by first | exact sizeID | (simp only [rowOf_size, bytR_size, idC_size]; exact sizeID)) (by first | (simp only [rowOf_size, bytR_size, idC_size]; done) | rfl) (by first | rfl | (simp only [List.size_toArray, List.length_cons, List.all_toArray', List.all_cons, List.all_nil, Value.oneCell', Bool.and_true, Bool.and_self]; done) | (simp [Value.oneCell']; done) | exact rowOf_one _ _ (fun _ _ => rfl) | exact idC_one _ | (exact rowOf_one _ _ (by intro i _; repeat (first | rfl | split)))) ?_); clear hm; intro w5 hm; simp only [Act.put, k1, k2, k3]; simp only [rowOf_set, k1, k2, k3, Value.cells, Act.eval, k7, k8, k9, kA, Option.getD_some] at hm
  go_wp2_with ((first | refine wpList_skip (by rfl) ?_ | (refine wlL (hm := hm) (hu := by first | exact undState | exact undID) (hi := by (try simp only [rowOf_size, bytR_size, idC_size]); first | exact sizeState | exact sizeID) (h := ?_); (try simp only [Act.put, k1, k2, k3]); (try simp only [← idV_eq])) | refine wlLC (hm := hm) (hv := by first | exact HCELL.out | rfl) (hu := by first | exact undU32 | exact undByteI) (h := ?_) | (refine wlS (hm := hm) (hv := (by first | rfl | exact idV_eq _ | exact labV_eq _ _ | exact rectV_eq _ _ _ _)) (hi := by (try simp only [rowOf_size, bytR_size, idC_size]); first | exact sizeState | exact sizeID) (hs := by first | (simp only [rowOf_size, bytR_size, idC_size]; done) | rfl) (h1 := by first | rfl | exact idC_one _ | exact rowOf_one _ _ (fun _ _ => rfl) | (simp only [List.size_toArray, List.length_cons, List.all_toArray', List.all_cons, List.all_nil, Value.oneCell', Bool.and_true, Bool.and_self]; done) | (simp [Value.oneCell']; done)) (h := ?_); clear hm; intro w1 hm; (try simp only [rowOf_set, k1, k2, k3, Value.cells, Act.eval, k7, k8, k9, kA, Option.getD_some] at hm)) | (refine wlSC (hm := hm) (hi := by first | exact sizeU32 | exact sizeByteI) (ho := by first | decide | (simp only [rowOf_size, bytR_size, idC_size]; omega) | (simp; done)) (h := ?_); clear hm; intro w1 hm; (try simp only [rowOf_set, k1, k2, k3, Value.cells, Act.eval, k7, k8, k9, kA, Option.getD_some] at hm)) | (refine wlA (hz := by first | exact zeroState | exact zeroID) (hm := hm) (h := ?_); clear hm; intro b1 w1 hm; (try simp only [rowOf_set, k1, k2, k3, Value.cells, Act.eval, k7, k8, k9, kA, Option.getD_some] at hm)) | (refine wl_box (by rfl) rfl (by first | exact idV_cells _ | exact labV_cells _ _ | exact rectV_cells _ _ _ _ | rfl) hm ?_; clear hm; intro b1 w1 hm) | (refine wl_build (by rfl) (built_id) rfl ?_; (try simp only [Act.put, k1, k2, k3]); (try simp only [← idV_eq])) | (with_reducible first | refine stBs ?_ | refine stMs ?_ | refine stAp ?_ | refine stCo ?_)); (try simp only [k4, k5, k6, Act.put, k1, k2, k3]))
  refine bodyPost_ret (results_row_tmp (h := rfl) _ _ _ _ _ _ _ rfl (hm.heap (i := 0) rfl) undID rfl (by first | exact sizeID | (simp only [rowOf_size, bytR_size, idC_size]; exact sizeID))) rfl ?_
  exact ⟨by unfold rowOf; rfl, hm.ext⟩
theorem sum_ok (s : ByteArray) (h : s.size ≤ 4096) (w : World) :
    Calls Try.prog 19 #[.string s] w fun e w' => e = .returned (.tuple #[idV (sumS s), .int .i64 0]) ∧ Ext w w' := by
  have hpad := pad_ok s h
  rw [padB_blocks] at hpad
  unfold sumS
  have hg := padF_lt s.size (byteAt s) (fun j _ => byteAt_lt s j)
  obtain ⟨M, hM⟩ : ∃ M, (s.size + 8) / 64 + 1 = M := ⟨_, rfl⟩
  rw [hM] at hpad ⊢
  have hM1 : 0 < M := by omega
  have hM2 : M < 1000 := by omega
  generalize padF s.size (byteAt s) = g at *
  clear hM
  have HG := hid hg
  clear hg
  go_enter Try.func19, Try.ntmps19
  have hm := Mem.refl w []
  go_wp2_with (with_reducible first | refine stAl ?_ | refine stBo ?_ | refine stLo ?_ | refine stSo ?_ | refine stBu ?_ | refine stBs ?_ | refine stMs ?_ | refine stAp ?_ | refine stCo ?_); refine Stop.go (wl_alloc (by rfl) zeroID rfl hm ?_); clear hm; intro b2 w2 hm; simp only [Act.put, k1, k2, k3]; (try simp only [rowOf_set, k1, k2, k3, Value.cells, Act.eval, k7, k8, k9, kA, Option.getD_some] at hm)
  go_wp2_with ((first | refine wpList_skip (by rfl) ?_ | (refine wlL (hm := hm) (hu := by first | exact undState | exact undID) (hi := by (try simp only [rowOf_size, bytR_size, idC_size]); first | exact sizeState | exact sizeID) (h := ?_); (try simp only [Act.put, k1, k2, k3]); (try simp only [← idV_eq])) | refine wlLC (hm := hm) (hv := by first | exact HCELL.out | rfl) (hu := by first | exact undU32 | exact undByteI) (h := ?_) | (refine wlS (hm := hm) (hv := (by first | rfl | exact idV_eq _ | exact labV_eq _ _ | exact rectV_eq _ _ _ _)) (hi := by (try simp only [rowOf_size, bytR_size, idC_size]); first | exact sizeState | exact sizeID) (hs := by first | (simp only [rowOf_size, bytR_size, idC_size]; done) | rfl) (h1 := by first | rfl | exact idC_one _ | exact rowOf_one _ _ (fun _ _ => rfl) | (simp only [List.size_toArray, List.length_cons, List.all_toArray', List.all_cons, List.all_nil, Value.oneCell', Bool.and_true, Bool.and_self]; done) | (simp [Value.oneCell']; done)) (h := ?_); clear hm; intro w1 hm; (try simp only [rowOf_set, k1, k2, k3, Value.cells, Act.eval, k7, k8, k9, kA, Option.getD_some] at hm)) | (refine wlSC (hm := hm) (hi := by first | exact sizeU32 | exact sizeByteI) (ho := by first | decide | (simp only [rowOf_size, bytR_size, idC_size]; omega) | (simp; done)) (h := ?_); clear hm; intro w1 hm; (try simp only [rowOf_set, k1, k2, k3, Value.cells, Act.eval, k7, k8, k9, kA, Option.getD_some] at hm)) | (refine wlA (hz := by first | exact zeroState | exact zeroID) (hm := hm) (h := ?_); clear hm; intro b1 w1 hm; (try simp only [rowOf_set, k1, k2, k3, Value.cells, Act.eval, k7, k8, k9, kA, Option.getD_some] at hm)) | (refine wl_box (by rfl) rfl (by first | exact idV_cells _ | exact labV_cells _ _ | exact rectV_cells _ _ _ _ | rfl) hm ?_; clear hm; intro b1 w1 hm) | (refine wl_build (by rfl) (built_id) rfl ?_; (try simp only [Act.put, k1, k2, k3]); (try simp only [← idV_eq])) | (go_at_call 40; refine (hpad _).mono ?_; rintro e w1 ⟨rfl, hx⟩; replace hm := hm.call hx; clear hx) | (with_reducible first | refine stBs ?_ | refine stMs ?_ | refine stAp ?_ | refine stCo ?_)); (try simp only [k4, k5, k6, Act.put, k1, k2, k3]))
  refine (start_c _).mono ?_; rintro e w1 ⟨rfl, hx⟩; replace hm := hm.call hx; clear hx; rw [stV_eq]
  go_wp2_with (with_reducible first | refine stAl ?_ | refine stBo ?_ | refine stLo ?_ | refine stSo ?_ | refine stBu ?_ | refine stBs ?_ | refine stMs ?_ | refine stAp ?_ | refine stCo ?_); refine Stop.go (wl_alloc (by rfl) zeroState rfl hm ?_); clear hm; intro b6 w6 hm; simp only [Act.put, k1, k2, k3]; (try simp only [rowOf_set, k1, k2, k3, Value.cells, Act.eval, k7, k8, k9, kA, Option.getD_some] at hm)
  go_wp2_with ((first | refine wpList_skip (by rfl) ?_ | (refine wlL (hm := hm) (hu := by first | exact undState | exact undID) (hi := by (try simp only [rowOf_size, bytR_size, idC_size]); first | exact sizeState | exact sizeID) (h := ?_); (try simp only [Act.put, k1, k2, k3]); (try simp only [← idV_eq])) | refine wlLC (hm := hm) (hv := by first | exact HCELL.out | rfl) (hu := by first | exact undU32 | exact undByteI) (h := ?_) | (refine wlS (hm := hm) (hv := (by first | rfl | exact idV_eq _ | exact labV_eq _ _ | exact rectV_eq _ _ _ _)) (hi := by (try simp only [rowOf_size, bytR_size, idC_size]); first | exact sizeState | exact sizeID) (hs := by first | (simp only [rowOf_size, bytR_size, idC_size]; done) | rfl) (h1 := by first | rfl | exact idC_one _ | exact rowOf_one _ _ (fun _ _ => rfl) | (simp only [List.size_toArray, List.length_cons, List.all_toArray', List.all_cons, List.all_nil, Value.oneCell', Bool.and_true, Bool.and_self]; done) | (simp [Value.oneCell']; done)) (h := ?_); clear hm; intro w1 hm; (try simp only [rowOf_set, k1, k2, k3, Value.cells, Act.eval, k7, k8, k9, kA, Option.getD_some] at hm)) | (refine wlSC (hm := hm) (hi := by first | exact sizeU32 | exact sizeByteI) (ho := by first | decide | (simp only [rowOf_size, bytR_size, idC_size]; omega) | (simp; done)) (h := ?_); clear hm; intro w1 hm; (try simp only [rowOf_set, k1, k2, k3, Value.cells, Act.eval, k7, k8, k9, kA, Option.getD_some] at hm)) | (refine wlA (hz := by first | exact zeroState | exact zeroID) (hm := hm) (h := ?_); clear hm; intro b1 w1 hm; (try simp only [rowOf_set, k1, k2, k3, Value.cells, Act.eval, k7, k8, k9, kA, Option.getD_some] at hm)) | (refine wl_box (by rfl) rfl (by first | exact idV_cells _ | exact labV_cells _ _ | exact rectV_cells _ _ _ _ | rfl) hm ?_; clear hm; intro b1 w1 hm) | (refine wl_build (by rfl) (built_id) rfl ?_; (try simp only [Act.put, k1, k2, k3]); (try simp only [← idV_eq])) | (with_reducible first | refine stBs ?_ | refine stMs ?_ | refine stAp ?_ | refine stCo ?_)); (try simp only [k4, k5, k6, Act.put, k1, k2, k3]))
  go_loopw [4] (fun vp wr => ∃ i : Nat, i ≤ M ∧ vp = .string (bytesB (64 * (M - i)) fun j => g (64 * i + j)) ∧ Mem w [] [(b6, .cells (stAt g i).val.cells 52 (0, 0)), (b2, .cells (rowOf 20 fun _ => .int .u8 0) 29 (0, 0))] wr)
    (fun vp _ => match vp with | .string o => o.size | _ => 0)
  case atStart => exact ⟨0, by omega, by simp, by rw [stAt, St.val_eq]; exact hm⟩
  case round =>
    clear hm
    obtain ⟨i, hi, rfl, hm⟩ := hrel
    have hu := stAt_ok g i
    have HS := hid (show stAt g (i + 1) = stepM (fun j => g (64 * i + j)) (stAt g i) from rfl)
    obtain ⟨u, hu'⟩ : ∃ u, stAt g i = u := ⟨_, rfl⟩
    rw [hu'] at hu HS hm
    have HU := hid hu'
    clear hu'
    rw [St.val_eq] at hm
    by_cases hlt : i < M
    · have hst := step_ok u hu (fun j => g (64 * i + j)) (fun j _ => HG.out _)
      rw [← HS.out, St.val_eq] at hst
      have hv := St.val_eq (stAt g (i + 1))
      rw [hv] at hst
      have HV := hid hv
      obtain ⟨c1, c2⟩ := blocks_cut g M i hlt
      have hsz := bytesB_size (64 * (M - i)) fun j => g (64 * i + j)
      obtain ⟨p, hp⟩ : ∃ p, (bytesB (64 * (M - i)) fun j => g (64 * i + j)) = p := ⟨_, rfl⟩
      obtain ⟨q, hq⟩ : ∃ q, (bytesB 64 fun j => g (64 * i + j)) = q := ⟨_, rfl⟩
      obtain ⟨r, hr⟩ : ∃ r, (bytesB (64 * (M - (i + 1))) fun j => g (64 * (i + 1) + j)) = r := ⟨_, rfl⟩
      rw [hp] at c1 c2 hsz ⊢
      rw [hq] at c1 hst
      rw [hr] at c2
      have hsz2 : r.size = 64 * (M - (i + 1)) := by rw [← hr, bytesB_size]
      have hsl : ∀ w, (Instr.slice 9 (.string p) none (some (.int .i64 64)) none).run Try.prog w = .ok (.string q) w := slice_to (n := 64) (by omega) c1
      have hsf : ∀ w, (Instr.slice 9 (.string p) (some (.int .i64 64)) none none).run Try.prog w = .ok (.string r) w := slice_from (n := 64) (by omega) (by rw [hsz]; exact c2)
      have hp0 : p ≠ { data := #[] } := by intro h; rw [h] at hsz; have : (0 : Nat) = 64 * (M - i) := hsz; omega
      have hpl : p.toList.isEmpty = false := by rw [toList_empty]; exact decide_eq_false hp0
      obtain ⟨v, hvv⟩ : ∃ v, stAt g (i + 1) = v := ⟨_, rfl⟩
      rw [hvv] at hst HV HS
      have HN := hid hvv
      have HR := hid hr
      clear hp hq hr c1 c2 hvv hv
      go_wp2_with ((first | refine wpList_skip (by rfl) ?_ | (refine wlL (hm := hm) (hu := by first | exact undState | exact undID) (hi := by (try simp only [rowOf_size, bytR_size, idC_size]); first | exact sizeState | exact sizeID) (h := ?_); (try simp only [Act.put, k1, k2, k3]); (try simp only [← idV_eq])) | refine wlLC (hm := hm) (hv := by first | exact HCELL.out | rfl) (hu := by first | exact undU32 | exact undByteI) (h := ?_) | (refine wlS (hm := hm) (hv := (by first | rfl | exact idV_eq _ | exact labV_eq _ _ | exact rectV_eq _ _ _ _)) (hi := by (try simp only [rowOf_size, bytR_size, idC_size]); first | exact sizeState | exact sizeID) (hs := by first | (simp only [rowOf_size, bytR_size, idC_size]; done) | rfl) (h1 := by first | rfl | exact idC_one _ | exact rowOf_one _ _ (fun _ _ => rfl) | (simp only [List.size_toArray, List.length_cons, List.all_toArray', List.all_cons, List.all_nil, Value.oneCell', Bool.and_true, Bool.and_self]; done) | (simp [Value.oneCell']; done)) (h := ?_); clear hm; intro w1 hm; (try simp only [rowOf_set, k1, k2, k3, Value.cells, Act.eval, k7, k8, k9, kA, Option.getD_some] at hm)) | (refine wlSC (hm := hm) (hi := by first | exact sizeU32 | exact sizeByteI) (ho := by first | decide | (simp only [rowOf_size, bytR_size, idC_size]; omega) | (simp; done)) (h := ?_); clear hm; intro w1 hm; (try simp only [rowOf_set, k1, k2, k3, Value.cells, Act.eval, k7, k8, k9, kA, Option.getD_some] at hm)) | (refine wlA (hz := by first | exact zeroState | exact zeroID) (hm := hm) (h := ?_); clear hm; intro b1 w1 hm; (try simp only [rowOf_set, k1, k2, k3, Value.cells, Act.eval, k7, k8, k9, kA, Option.getD_some] at hm)) | (refine wl_box (by rfl) rfl (by first | exact idV_cells _ | exact labV_cells _ _ | exact rectV_cells _ _ _ _ | rfl) hm ?_; clear hm; intro b1 w1 hm) | (refine wl_build (by rfl) (built_id) rfl ?_; (try simp only [Act.put, k1, k2, k3]); (try simp only [← idV_eq])) | (with_reducible first | refine stBs ?_ | refine stMs ?_ | refine stAp ?_ | refine stCo ?_)); (try simp only [k4, k5, k6, Act.put, k1, k2, k3]))
      go_wp2_with (with_reducible first | refine stAl ?_ | refine stBo ?_ | refine stLo ?_ | refine stSo ?_ | refine stBu ?_ | refine stBs ?_ | refine stMs ?_ | refine stAp ?_ | refine stCo ?_); refine wp_region_held_drew (by kernel_rfl) (hm.erase 0).drew (fun hS => ?_); replace hm := hm.drew
      refine whS (i := 1) (hS := hS) (h := ?_)
      simp only [k4, k5, k6, Act.put, k1, k2, k3]
      refine whS (i := 2) (hS := hS) (h := ?_)
      simp only [k4, k5, k6, Act.put, k1, k2, k3]
      refine wh_one (i := 0) (by kernel_rfl) rfl (by rfl) (fun K' hK => ?_)
      refine ow_load (i := 0) hm rfl rfl undState rfl sizeState ?_; refine hK.out _ _ hS ?_; clear hK K'; (try (simp only [k4, k5, k6, Act.put, k1, k2, k3]))
      refine wh_one (i := 3) (by kernel_rfl) rfl (by rfl) (fun K' hK => ?_); go_simp; refine (hst _).mono ?_; rintro e w5 ⟨rfl, hx⟩; replace hm := hm.call hx; clear hx hS; have hS := hm.erase 0; refine hK.out _ _ hS ?_; clear hK K'; (try simp only [k4, k5, k6, Act.put, k1, k2, k3])
      refine whS (i := 4) (hS := hS) (h := ?_)
      simp only [k4, k5, k6, Act.put, k1, k2, k3]
      refine whS (i := 5) (hS := hS) (h := ?_)
      simp only [k4, k5, k6, Act.put, k1, k2, k3]
      refine whS (i := 6) (hS := hS) (h := ?_)
      simp only [k4, k5, k6, Act.put, k1, k2, k3]
      refine wh_one (i := 7) (by kernel_rfl) rfl (by rfl) (fun K' hK => ?_); refine ow_store (i := 0) hm rfl rfl rfl (by first | rfl | exact idV_eq _ | exact labV_eq _ _ | exact rectV_eq _ _ _ _) (by first | exact sizeState | (simp only [rowOf_size, bytR_size, idC_size]; exact sizeState)) (by first | (simp only [rowOf_size, bytR_size, idC_size]; done) | rfl) (by first | rfl | (simp only [List.size_toArray, List.length_cons, List.all_toArray', List.all_cons, List.all_nil, Value.oneCell', Bool.and_true, Bool.and_self]; done) | (simp [Value.oneCell']; done) | exact rowOf_one _ _ (fun _ _ => rfl) | exact idC_one _ | (exact rowOf_one _ _ (by intro i _; repeat (first | rfl | split)))) ?_; clear hm hS; intro w6 hm; simp only [k4, k5, k6, Act.put, k1, k2, k3]; simp only [rowOf_set, k1, k2, k3, Value.cells, Act.eval, k7, k8, k9, kA, Option.getD_some] at hm; have hS := hm.erase 0; refine hK.out _ _ hS ?_; clear hK K'; (try simp only [k4, k5, k6, Act.put, k1, k2, k3])
      refine wpAnyH_done (by kernel_rfl) ?_ _
      go_wp2_with ((first | refine wpList_skip (by rfl) ?_ | (refine wlL (hm := hm) (hu := by first | exact undState | exact undID) (hi := by (try simp only [rowOf_size, bytR_size, idC_size]); first | exact sizeState | exact sizeID) (h := ?_); (try simp only [Act.put, k1, k2, k3]); (try simp only [← idV_eq])) | refine wlLC (hm := hm) (hv := by first | exact HCELL.out | rfl) (hu := by first | exact undU32 | exact undByteI) (h := ?_) | (refine wlS (hm := hm) (hv := (by first | rfl | exact idV_eq _ | exact labV_eq _ _ | exact rectV_eq _ _ _ _)) (hi := by (try simp only [rowOf_size, bytR_size, idC_size]); first | exact sizeState | exact sizeID) (hs := by first | (simp only [rowOf_size, bytR_size, idC_size]; done) | rfl) (h1 := by first | rfl | exact idC_one _ | exact rowOf_one _ _ (fun _ _ => rfl) | (simp only [List.size_toArray, List.length_cons, List.all_toArray', List.all_cons, List.all_nil, Value.oneCell', Bool.and_true, Bool.and_self]; done) | (simp [Value.oneCell']; done)) (h := ?_); clear hm; intro w1 hm; (try simp only [rowOf_set, k1, k2, k3, Value.cells, Act.eval, k7, k8, k9, kA, Option.getD_some] at hm)) | (refine wlSC (hm := hm) (hi := by first | exact sizeU32 | exact sizeByteI) (ho := by first | decide | (simp only [rowOf_size, bytR_size, idC_size]; omega) | (simp; done)) (h := ?_); clear hm; intro w1 hm; (try simp only [rowOf_set, k1, k2, k3, Value.cells, Act.eval, k7, k8, k9, kA, Option.getD_some] at hm)) | (refine wlA (hz := by first | exact zeroState | exact zeroID) (hm := hm) (h := ?_); clear hm; intro b1 w1 hm; (try simp only [rowOf_set, k1, k2, k3, Value.cells, Act.eval, k7, k8, k9, kA, Option.getD_some] at hm)) | (refine wl_box (by rfl) rfl (by first | exact idV_cells _ | exact labV_cells _ _ | exact rectV_cells _ _ _ _ | rfl) hm ?_; clear hm; intro b1 w1 hm) | (refine wl_build (by rfl) (built_id) rfl ?_; (try simp only [Act.put, k1, k2, k3]); (try simp only [← idV_eq])) | (with_reducible first | refine stBs ?_ | refine stMs ?_ | refine stAp ?_ | refine stCo ?_)); (try simp only [k4, k5, k6, Act.put, k1, k2, k3]))
      go_roundw
      case rel => exact ⟨i + 1, by omega, by rw [HR.out], by rw [HN.out, St.val_eq]; exact hm⟩
      case measure => (simp only [hsz, hsz2]; omega)
    · obtain rfl : i = M := by omega
      have hpl : (bytesB (64 * (i - i)) fun j => g (64 * i + j)).toList.isEmpty = true := by rw [toList_empty, Nat.sub_self]; unfold bytesB; rfl
      obtain ⟨p, hp⟩ : ∃ p, (bytesB (64 * (i - i)) fun j => g (64 * i + j)) = p := ⟨_, rfl⟩
      rw [hp] at hpl ⊢
      clear hp
      go_wp2_with ((first | refine wpList_skip (by rfl) ?_ | (refine wlL (hm := hm) (hu := by first | exact undState | exact undID) (hi := by (try simp only [rowOf_size, bytR_size, idC_size]); first | exact sizeState | exact sizeID) (h := ?_); (try simp only [Act.put, k1, k2, k3]); (try simp only [← idV_eq])) | refine wlLC (hm := hm) (hv := by first | exact HCELL.out | rfl) (hu := by first | exact undU32 | exact undByteI) (h := ?_) | (refine wlS (hm := hm) (hv := (by first | rfl | exact idV_eq _ | exact labV_eq _ _ | exact rectV_eq _ _ _ _)) (hi := by (try simp only [rowOf_size, bytR_size, idC_size]); first | exact sizeState | exact sizeID) (hs := by first | (simp only [rowOf_size, bytR_size, idC_size]; done) | rfl) (h1 := by first | rfl | exact idC_one _ | exact rowOf_one _ _ (fun _ _ => rfl) | (simp only [List.size_toArray, List.length_cons, List.all_toArray', List.all_cons, List.all_nil, Value.oneCell', Bool.and_true, Bool.and_self]; done) | (simp [Value.oneCell']; done)) (h := ?_); clear hm; intro w1 hm; (try simp only [rowOf_set, k1, k2, k3, Value.cells, Act.eval, k7, k8, k9, kA, Option.getD_some] at hm)) | (refine wlSC (hm := hm) (hi := by first | exact sizeU32 | exact sizeByteI) (ho := by first | decide | (simp only [rowOf_size, bytR_size, idC_size]; omega) | (simp; done)) (h := ?_); clear hm; intro w1 hm; (try simp only [rowOf_set, k1, k2, k3, Value.cells, Act.eval, k7, k8, k9, kA, Option.getD_some] at hm)) | (refine wlA (hz := by first | exact zeroState | exact zeroID) (hm := hm) (h := ?_); clear hm; intro b1 w1 hm; (try simp only [rowOf_set, k1, k2, k3, Value.cells, Act.eval, k7, k8, k9, kA, Option.getD_some] at hm)) | (refine wl_box (by rfl) rfl (by first | exact idV_cells _ | exact labV_cells _ _ | exact rectV_cells _ _ _ _ | rfl) hm ?_; clear hm; intro b1 w1 hm) | (refine wl_build (by rfl) (built_id) rfl ?_; (try simp only [Act.put, k1, k2, k3]); (try simp only [← idV_eq])) | (with_reducible first | refine stBs ?_ | refine stMs ?_ | refine stAp ?_ | refine stCo ?_)); (try simp only [k4, k5, k6, Act.put, k1, k2, k3]))
      have HD := hid (fun (k : Nat) (h : k < 20) => dig_idN hu (k / 4) (k % 4) (by omega : k / 4 < 5) (Nat.mod_lt _ (by decide)))
      have HC := hid (fun i h => St.cell (s := u) i h)
      have HL := hid (St.word_lt hu)
      obtain ⟨N, hN⟩ : ∃ N, idN u = N := ⟨_, rfl⟩
      rw [hN] at HD
      have HN := hid hN
      rw [← bytR_zero N] at hm
      clear hpl hpad hN
      go_loopw [30] (fun vi wr => ∃ k : Nat, k ≤ 20 ∧ vi = .int .i64 (k : Int) ∧ Mem w [] [(b1, .cells (bytR N k) 29 (0, 0)), (b6, .cells #[.int .u32 (u.a : Int), .int .u32 (u.b : Int), .int .u32 (u.c : Int), .int .u32 (u.d : Int), .int .u32 (u.e : Int)] 52 (0, 0)), (b2, .cells (bytR N 0) 29 (0, 0))] wr)
        (fun vi _ => (20 - intOf vi).toNat)
      case atStart => exact ⟨0, by omega, rfl, hm⟩
      case round =>
        clear hm
        obtain ⟨k, hk, rfl, hm⟩ := hrel
        by_cases h20 : k < 20
        · have e1 : (k : Int) < 20 := by omega
          have w3' : IntKind.i64.wrap ((k : Int) + 1) = (k : Int) + 1 := wrap_i64 (by omega) (by omega)
          have hd := HD.out k h20
          obtain ⟨x, hx⟩ : ∃ x, k / 4 = x := ⟨_, rfl⟩
          obtain ⟨y, hy⟩ : ∃ y, k % 4 = y := ⟨_, rfl⟩
          have hk4 : 4 * x + y = k := by omega
          rw [hx, hy, hk4] at hd
          obtain ⟨z, hz⟩ : ∃ z, 24 - 8 * y = z := ⟨_, rfl⟩
          have hl := HL.out x
          have HCELL := hid (HC.out x (by omega))
          rw [show (256 : Nat) ^ (3 - y) = 2 ^ z from by rw [show (256 : Nat) = 2 ^ 8 from rfl, ← Nat.pow_mul]; congr 1; omega] at hd
          obtain ⟨W, hW⟩ : ∃ W, u.word x = W := ⟨_, rfl⟩
          rw [hW] at HCELL hl hd
          clear hW
          obtain ⟨p, hp⟩ : ∃ p, W / 2 ^ z = p := ⟨_, rfl⟩
          obtain ⟨r, hr⟩ : ∃ r, p % 256 = r := ⟨_, rfl⟩
          rw [hp, hr] at hd
          have f1 : (k : Int) / 4 = (x : Int) := by omega
          have f2 : (k : Int) % 4 = (y : Int) := by omega
          have f3 : IntKind.i64.wrap (8 * (y : Int)) = 8 * (y : Int) := wrap_i64 (by omega) (by omega)
          have f4 : IntKind.i64.wrap (24 - 8 * (y : Int)) = (z : Int) := by rw [wrap_i64 (by omega) (by omega)]; omega
          have f5 : (W : Int) / 2 ^ z = (p : Int) := by rw [← hp]; push_cast; rfl
          have f6 : IntKind.u8.wrap (p : Int) = (r : Int) := by rw [wrap_mod8', hr]
          have z0 : (0 : Int) ≤ (z : Int) := by omega
          have z1 : (z : Int) ≤ 32 := by omega
          have x0 : (0 : Int) ≤ (x : Int) := by omega
          have x5 : (x : Int) < 5 := by omega
          have HR := hid hd
          clear hd hp hr hz hx hy hl
          go_wp2_with (with_reducible first | refine stAl ?_ | refine stBo ?_ | refine stLo ?_ | refine stSo ?_ | refine stBu ?_ | refine stBs ?_ | refine stMs ?_ | refine stAp ?_ | refine stCo ?_); refine Stop.go (wl_loadCell (i := 1) (by rfl) hm rfl rfl (HCELL.out) undU32 rfl ?_); simp only [Act.put, k1, k2, k3]
          go_wp2_with (with_reducible first | refine stAl ?_ | refine stBo ?_ | refine stLo ?_ | refine stSo ?_ | refine stBu ?_ | refine stBs ?_ | refine stMs ?_ | refine stAp ?_ | refine stCo ?_); refine Stop.go (wl_storeCell (i := 0) (by rfl) hm rfl rfl rfl rfl sizeByteI (by simp only [rowOf_size, bytR_size, idC_size]; omega) ?_); clear hm; intro w5 hm; simp only [Act.put, k1, k2, k3]; (try simp only [rowOf_set, k1, k2, k3, Value.cells, Act.eval, k7, k8, k9, kA, Option.getD_some] at hm)
          rw [← HR.out, bytR_set] at hm
          go_wp2_with ((first | refine wpList_skip (by rfl) ?_ | (refine wlL (hm := hm) (hu := by first | exact undState | exact undID) (hi := by (try simp only [rowOf_size, bytR_size, idC_size]); first | exact sizeState | exact sizeID) (h := ?_); (try simp only [Act.put, k1, k2, k3]); (try simp only [← idV_eq])) | refine wlLC (hm := hm) (hv := by first | exact HCELL.out | rfl) (hu := by first | exact undU32 | exact undByteI) (h := ?_) | (refine wlS (hm := hm) (hv := (by first | rfl | exact idV_eq _ | exact labV_eq _ _ | exact rectV_eq _ _ _ _)) (hi := by (try simp only [rowOf_size, bytR_size, idC_size]); first | exact sizeState | exact sizeID) (hs := by first | (simp only [rowOf_size, bytR_size, idC_size]; done) | rfl) (h1 := by first | rfl | exact idC_one _ | exact rowOf_one _ _ (fun _ _ => rfl) | (simp only [List.size_toArray, List.length_cons, List.all_toArray', List.all_cons, List.all_nil, Value.oneCell', Bool.and_true, Bool.and_self]; done) | (simp [Value.oneCell']; done)) (h := ?_); clear hm; intro w1 hm; (try simp only [rowOf_set, k1, k2, k3, Value.cells, Act.eval, k7, k8, k9, kA, Option.getD_some] at hm)) | (refine wlSC (hm := hm) (hi := by first | exact sizeU32 | exact sizeByteI) (ho := by first | decide | (simp only [rowOf_size, bytR_size, idC_size]; omega) | (simp; done)) (h := ?_); clear hm; intro w1 hm; (try simp only [rowOf_set, k1, k2, k3, Value.cells, Act.eval, k7, k8, k9, kA, Option.getD_some] at hm)) | (refine wlA (hz := by first | exact zeroState | exact zeroID) (hm := hm) (h := ?_); clear hm; intro b1 w1 hm; (try simp only [rowOf_set, k1, k2, k3, Value.cells, Act.eval, k7, k8, k9, kA, Option.getD_some] at hm)) | (refine wl_box (by rfl) rfl (by first | exact idV_cells _ | exact labV_cells _ _ | exact rectV_cells _ _ _ _ | rfl) hm ?_; clear hm; intro b1 w1 hm) | (refine wl_build (by rfl) (built_id) rfl ?_; (try simp only [Act.put, k1, k2, k3]); (try simp only [← idV_eq])) | (with_reducible first | refine stBs ?_ | refine stMs ?_ | refine stAp ?_ | refine stCo ?_)); (try simp only [k4, k5, k6, Act.put, k1, k2, k3]))
          go_roundw
          case rel => exact ⟨k + 1, by omega, by go_num, hm⟩
          case measure => (simp [intOf]; try omega)
        · obtain rfl : k = 20 := by omega
          rw [bytR_all] at hm
          go_wp2_with ((first | refine wpList_skip (by rfl) ?_ | (refine wlL (hm := hm) (hu := by first | exact undState | exact undID) (hi := by (try simp only [rowOf_size, bytR_size, idC_size]); first | exact sizeState | exact sizeID) (h := ?_); (try simp only [Act.put, k1, k2, k3]); (try simp only [← idV_eq])) | refine wlLC (hm := hm) (hv := by first | exact HCELL.out | rfl) (hu := by first | exact undU32 | exact undByteI) (h := ?_) | (refine wlS (hm := hm) (hv := (by first | rfl | exact idV_eq _ | exact labV_eq _ _ | exact rectV_eq _ _ _ _)) (hi := by (try simp only [rowOf_size, bytR_size, idC_size]); first | exact sizeState | exact sizeID) (hs := by first | (simp only [rowOf_size, bytR_size, idC_size]; done) | rfl) (h1 := by first | rfl | exact idC_one _ | exact rowOf_one _ _ (fun _ _ => rfl) | (simp only [List.size_toArray, List.length_cons, List.all_toArray', List.all_cons, List.all_nil, Value.oneCell', Bool.and_true, Bool.and_self]; done) | (simp [Value.oneCell']; done)) (h := ?_); clear hm; intro w1 hm; (try simp only [rowOf_set, k1, k2, k3, Value.cells, Act.eval, k7, k8, k9, kA, Option.getD_some] at hm)) | (refine wlSC (hm := hm) (hi := by first | exact sizeU32 | exact sizeByteI) (ho := by first | decide | (simp only [rowOf_size, bytR_size, idC_size]; omega) | (simp; done)) (h := ?_); clear hm; intro w1 hm; (try simp only [rowOf_set, k1, k2, k3, Value.cells, Act.eval, k7, k8, k9, kA, Option.getD_some] at hm)) | (refine wlA (hz := by first | exact zeroState | exact zeroID) (hm := hm) (h := ?_); clear hm; intro b1 w1 hm; (try simp only [rowOf_set, k1, k2, k3, Value.cells, Act.eval, k7, k8, k9, kA, Option.getD_some] at hm)) | (refine wl_box (by rfl) rfl (by first | exact idV_cells _ | exact labV_cells _ _ | exact rectV_cells _ _ _ _ | rfl) hm ?_; clear hm; intro b1 w1 hm) | (refine wl_build (by rfl) (built_id) rfl ?_; (try simp only [Act.put, k1, k2, k3]); (try simp only [← idV_eq])) | (with_reducible first | refine stBs ?_ | refine stMs ?_ | refine stAp ?_ | refine stCo ?_)); (try simp only [k4, k5, k6, Act.put, k1, k2, k3]))
          refine bodyPost_ret (results_row_tmp (h := rfl) _ _ _ _ _ _ _ rfl (hm.heap (i := 2) rfl) undID rfl (by first | exact sizeID | (simp only [rowOf_size, bytR_size, idC_size]; exact sizeID))) rfl ?_
          exact ⟨by rw [HU.out, HN.out]; first | rfl | (rw [idV_eq]; rfl), hm.ext⟩
end Go.Proofs.Ytdlfgoiakkkilaa
