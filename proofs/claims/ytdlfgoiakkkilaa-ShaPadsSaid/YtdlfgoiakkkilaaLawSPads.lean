/- For every text s the call ShaPads(s) returns true and leaves its arguments as they were: what is padded begins with the text, has whole blocks, no more than one more than the text fills, behind the text a byte 128, then zeros, and at last how many bits there are. No condition. -/
import Derived.Test.YtdlfgoiakkkilaaShaL
import Derived.Test.YtdlfgoiakkkilaaOpen
import Derived.Test.YtdlfgoiakkkilaaRows
namespace Go.Proofs.Ytdlfgoiakkkilaa.lawSPads
open Go.ChangeShapes Go.WideShapes Go.ChangeAt Go.RowKit
set_option linter.unusedSimpArgs false
set_option linter.unusedVariables false
set_option maxHeartbeats 4000000
set_option maxRecDepth 20000
attribute [local irreducible] wpQuiet wpList wpAnyH Calls

theorem walk_long (s : ByteArray) (h : 2000 < s.size) (w : World) :
    Calls Try.prog 10 #[.string s] w fun e w' => e = .returned (.bool true) ∧ Ext w w' := by
  go_enter Try.func10, Try.ntmps10
  have hm := Mem.refl w []
  go_wp2_with (first | ((with_reducible show wpList _ _ _ (⟨_, .load _ _, _, _, _, _⟩ :: _) _ _); first | (refine wpList_skip (by rfl) ?_; (try simp only [Act.put, List.setIfInBounds_toArray, List.set_cons_zero, List.set_cons_succ])) | (refine wl_load (by rfl) hm (by with_reducible first | exact at0 | exact at1 | exact at2) rfl (by first | exact undID) (by rfl) (by (try simp only [rowOf_size]); first | exact sizeID) ?_; (try simp only [Act.put, List.setIfInBounds_toArray, List.set_cons_zero, List.set_cons_succ]); (try simp only [← idV_eq]))) | ((with_reducible show wpList _ _ _ (⟨_, .store _ _ _, _, _, _, _⟩ :: _) _ _); first | (refine wpList_skip (by rfl) ?_; (try simp only [Act.put, List.setIfInBounds_toArray, List.set_cons_zero, List.set_cons_succ])) | (refine wl_store (by rfl) hm (by with_reducible first | exact at0 | exact at1 | exact at2) rfl rfl (by first | rfl | exact idV_eq _ | exact labV_eq _ _ | exact rectV_eq _ _ _ _) (by (try simp only [rowOf_size]); first | exact sizeID) (by first | (simp only [rowOf_size]; done) | rfl) (by first | rfl | (simp only [List.size_toArray, List.length_cons, List.all_toArray', List.all_cons, List.all_nil, Value.oneCell', Bool.and_true, Bool.and_self]; done) | (simp [Value.oneCell']; done) | exact rowOf_one _ _ (fun _ _ => rfl) | exact idC_one _ | (exact rowOf_one _ _ (by intro i _; repeat (first | rfl | split)))) ?_; clear hm; intro w1 hm; (try simp only [Act.put, List.setIfInBounds_toArray, List.set_cons_zero, List.set_cons_succ]); (try simp only [rowOf_set, List.setIfInBounds_toArray, List.set_cons_zero, List.set_cons_succ, Value.cells, Act.eval, Array.getD_eq_getD_getElem?, List.getElem?_toArray, List.getElem?_cons_zero, List.getElem?_cons_succ, Option.getD_some] at hm))) | ((with_reducible show wpList _ _ _ (⟨_, .alloc _, _, _, _, _⟩ :: _) _ _); refine wl_alloc (by rfl) (by first | exact zeroID) (by rfl) hm ?_; clear hm; intro b1 w1 hm; (try simp only [Act.put, List.setIfInBounds_toArray, List.set_cons_zero, List.set_cons_succ]); (try simp only [rowOf_set, List.setIfInBounds_toArray, List.set_cons_zero, List.set_cons_succ, Value.cells, Act.eval, Array.getD_eq_getD_getElem?, List.getElem?_toArray, List.getElem?_cons_zero, List.getElem?_cons_succ, Option.getD_some] at hm)) | ((with_reducible show wpList _ _ _ (⟨_, .box _ _, _, _, _, _⟩ :: _) _ _); refine wl_box (by rfl) rfl (by first | exact idV_cells _ | exact labV_cells _ _ | exact rectV_cells _ _ _ _ | rfl) hm ?_; clear hm; intro b1 w1 hm; (try simp only [Act.put, List.setIfInBounds_toArray, List.set_cons_zero, List.set_cons_succ])) | ((with_reducible show wpList _ _ _ (⟨_, .build _ _, _, _, _, _⟩ :: _) _ _); first | (refine wpList_skip (by rfl) ?_; (try simp only [Act.put, List.setIfInBounds_toArray, List.set_cons_zero, List.set_cons_succ]))) | ((with_reducible show wpList _ _ _ (⟨_, .buildSlice _ _ _, _, _, _, _⟩ :: _) _ _); first | (refine wpList_skip (by rfl) ?_; (try simp only [Act.put, List.setIfInBounds_toArray, List.set_cons_zero, List.set_cons_succ]))) | ((with_reducible show wpList _ _ _ (⟨_, .makeSlice _ _ _, _, _, _, _⟩ :: _) _ _); first | (refine wpList_skip (by rfl) ?_; (try simp only [Act.put, List.setIfInBounds_toArray, List.set_cons_zero, List.set_cons_succ]))) | ((with_reducible show wpList _ _ _ (⟨_, .call ⟨.builtin .append, _, _⟩, _, _, _, _⟩ :: _) _ _); first | (refine wpList_skip (by rfl) ?_; (try simp only [Act.put, List.setIfInBounds_toArray, List.set_cons_zero, List.set_cons_succ]))) | ((with_reducible show wpList _ _ _ (⟨_, .call ⟨.builtin .copy, _, _⟩, _, _, _, _⟩ :: _) _ _); first | (refine wpList_skip (by rfl) ?_; (try simp only [Act.put, List.setIfInBounds_toArray, List.set_cons_zero, List.set_cons_succ]))) | (go_at_call 40; refine (hpad _).mono ?_; rintro e w1 ⟨rfl, hx⟩; replace hm := hm.call hx; clear hx))
  go_ret
  exact ⟨rfl, hm.ext⟩
theorem walk_short (s : ByteArray) (h : s.size ≤ 2000) (w : World) :
    Calls Try.prog 10 #[.string s] w fun e w' => e = .returned (.bool true) ∧ Ext w w' := by
  have hpad := pad_ok s (by omega)
  have hP := padB_blocks s
  have hsz := padB_size s
  have hF : ∀ j, padF s.size (byteAt s) j < 256 := padF_lt s.size (byteAt s) (fun j _ => byteAt_lt s j)
  have hT : (padB s).extract 0 s.size = s := by
    rw [hP, bytesB_take _ _ _ (by omega)]
    conv => rhs; rw [bytes_of s]
    exact bytesB_congr fun i hi => by unfold padF byteAt; rw [if_pos hi]
  obtain ⟨n, hn⟩ : ∃ n, s.size = n := ⟨_, rfl⟩
  rw [hn] at h hP hsz hF hT
  have hI : ∀ k, k < padLen n → ∀ w, (Instr.index 9 (.string (padB s)) (.int .i64 (k : Int))).run Try.prog w = .ok (.int .u8 ((padF n (byteAt s) k : Nat) : Int)) w := fun k hk => by
    rw [hP, show 64 * ((n + 8) / 64 + 1) = padLen n from by unfold padLen; omega]
    exact run_indexS (bytesB_get hk) (hF k)
  have hL1 : padLen n % 64 = 0 := by unfold padLen; omega
  have hL2 : n + 9 ≤ padLen n := by unfold padLen; omega
  have hL3 : padLen n ≤ n + 72 := by unfold padLen; omega
  have hF0 : padF n (byteAt s) n = 128 := by unfold padF; rw [if_neg (by omega), if_pos rfl]
  have hF1 : ∀ k, n < k → k < padLen n - 8 → padF n (byteAt s) k = 0 := fun k h1 h2 => by unfold padF; rw [if_neg (by omega), if_neg (by omega), if_pos h2]
  have hF2 : ∀ k, padLen n - 8 ≤ k → padF n (byteAt s) k = 8 * n / 256 ^ (padLen n - 1 - k) % 256 := fun k h1 => by unfold padF; rw [if_neg (by omega), if_neg (by omega), if_neg (by omega)]
  generalize padF n (byteAt s) = g at *
  generalize padLen n = L at *
  generalize padB s = P at *
  clear hP
  have HI := hid hI
  have HF := hid hF
  have HF1 := hid hF1
  have HF2 := hid hF2
  have i0 := hI n (by omega)
  rw [hF0] at i0
  have hsl := slice_to (s := P) (t := s) (n := n) (by omega) hT
  clear hI hF hF1 hF2 hT hF0
  have f1 : IntKind.i64.wrap ((n : Int) + 9) = (n : Int) + 9 := wrap_i64 (by omega) (by omega)
  have f2 : IntKind.i64.wrap ((n : Int) + 72) = (n : Int) + 72 := wrap_i64 (by omega) (by omega)
  have f3 : IntKind.i64.wrap ((n : Int) + 1) = ((n + 1 : Nat) : Int) := by rw [wrap_i64 (by omega) (by omega)]; rfl
  have f4 : (L : Int) % 64 = 0 := by omega
  have d1 : (n : Int) + 9 ≤ (L : Int) := by omega
  have d2 : (L : Int) ≤ (n : Int) + 72 := by omega
  obtain ⟨m, hm8⟩ : ∃ m, L - 8 = m := ⟨_, rfl⟩
  have f5 : IntKind.i64.wrap ((L : Int) - 8) = (m : Int) := by rw [wrap_i64 (by omega) (by omega)]; omega
  rw [hm8] at HF1 HF2
  go_enter Try.func10, Try.ntmps10
  have hm := Mem.refl w []
  go_wp2_with (first | ((with_reducible show wpList _ _ _ (⟨_, .load _ _, _, _, _, _⟩ :: _) _ _); first | (refine wpList_skip (by rfl) ?_; (try simp only [Act.put, List.setIfInBounds_toArray, List.set_cons_zero, List.set_cons_succ])) | (refine wl_load (by rfl) hm (by with_reducible first | exact at0 | exact at1 | exact at2) rfl (by first | exact undID) (by rfl) (by (try simp only [rowOf_size]); first | exact sizeID) ?_; (try simp only [Act.put, List.setIfInBounds_toArray, List.set_cons_zero, List.set_cons_succ]); (try simp only [← idV_eq]))) | ((with_reducible show wpList _ _ _ (⟨_, .store _ _ _, _, _, _, _⟩ :: _) _ _); first | (refine wpList_skip (by rfl) ?_; (try simp only [Act.put, List.setIfInBounds_toArray, List.set_cons_zero, List.set_cons_succ])) | (refine wl_store (by rfl) hm (by with_reducible first | exact at0 | exact at1 | exact at2) rfl rfl (by first | rfl | exact idV_eq _ | exact labV_eq _ _ | exact rectV_eq _ _ _ _) (by (try simp only [rowOf_size]); first | exact sizeID) (by first | (simp only [rowOf_size]; done) | rfl) (by first | rfl | (simp only [List.size_toArray, List.length_cons, List.all_toArray', List.all_cons, List.all_nil, Value.oneCell', Bool.and_true, Bool.and_self]; done) | (simp [Value.oneCell']; done) | exact rowOf_one _ _ (fun _ _ => rfl) | exact idC_one _ | (exact rowOf_one _ _ (by intro i _; repeat (first | rfl | split)))) ?_; clear hm; intro w1 hm; (try simp only [Act.put, List.setIfInBounds_toArray, List.set_cons_zero, List.set_cons_succ]); (try simp only [rowOf_set, List.setIfInBounds_toArray, List.set_cons_zero, List.set_cons_succ, Value.cells, Act.eval, Array.getD_eq_getD_getElem?, List.getElem?_toArray, List.getElem?_cons_zero, List.getElem?_cons_succ, Option.getD_some] at hm))) | ((with_reducible show wpList _ _ _ (⟨_, .alloc _, _, _, _, _⟩ :: _) _ _); refine wl_alloc (by rfl) (by first | exact zeroID) (by rfl) hm ?_; clear hm; intro b1 w1 hm; (try simp only [Act.put, List.setIfInBounds_toArray, List.set_cons_zero, List.set_cons_succ]); (try simp only [rowOf_set, List.setIfInBounds_toArray, List.set_cons_zero, List.set_cons_succ, Value.cells, Act.eval, Array.getD_eq_getD_getElem?, List.getElem?_toArray, List.getElem?_cons_zero, List.getElem?_cons_succ, Option.getD_some] at hm)) | ((with_reducible show wpList _ _ _ (⟨_, .box _ _, _, _, _, _⟩ :: _) _ _); refine wl_box (by rfl) rfl (by first | exact idV_cells _ | exact labV_cells _ _ | exact rectV_cells _ _ _ _ | rfl) hm ?_; clear hm; intro b1 w1 hm; (try simp only [Act.put, List.setIfInBounds_toArray, List.set_cons_zero, List.set_cons_succ])) | ((with_reducible show wpList _ _ _ (⟨_, .build _ _, _, _, _, _⟩ :: _) _ _); first | (refine wpList_skip (by rfl) ?_; (try simp only [Act.put, List.setIfInBounds_toArray, List.set_cons_zero, List.set_cons_succ]))) | ((with_reducible show wpList _ _ _ (⟨_, .buildSlice _ _ _, _, _, _, _⟩ :: _) _ _); first | (refine wpList_skip (by rfl) ?_; (try simp only [Act.put, List.setIfInBounds_toArray, List.set_cons_zero, List.set_cons_succ]))) | ((with_reducible show wpList _ _ _ (⟨_, .makeSlice _ _ _, _, _, _, _⟩ :: _) _ _); first | (refine wpList_skip (by rfl) ?_; (try simp only [Act.put, List.setIfInBounds_toArray, List.set_cons_zero, List.set_cons_succ]))) | ((with_reducible show wpList _ _ _ (⟨_, .call ⟨.builtin .append, _, _⟩, _, _, _, _⟩ :: _) _ _); first | (refine wpList_skip (by rfl) ?_; (try simp only [Act.put, List.setIfInBounds_toArray, List.set_cons_zero, List.set_cons_succ]))) | ((with_reducible show wpList _ _ _ (⟨_, .call ⟨.builtin .copy, _, _⟩, _, _, _, _⟩ :: _) _ _); first | (refine wpList_skip (by rfl) ?_; (try simp only [Act.put, List.setIfInBounds_toArray, List.set_cons_zero, List.set_cons_succ]))) | (go_at_call 40; refine (hpad _).mono ?_; rintro e w1 ⟨rfl, hx⟩; replace hm := hm.call hx; clear hx))
  go_loopw [5] (fun vi wr => ∃ i : Nat, n < i ∧ i ≤ m ∧ vi = .int .i64 (i : Int) ∧ Mem w [] [] wr)
    (fun vi _ => (m - intOf vi).toNat)
  case atStart => exact ⟨n + 1, by omega, by omega, rfl, hm⟩
  case round =>
    clear hm
    obtain ⟨i, h1, h2, rfl, hm⟩ := hrel
    by_cases him : i < m
    · have e1 : (i : Int) < (m : Int) := by omega
      have w3' : IntKind.i64.wrap ((i : Int) + 1) = (i : Int) + 1 := wrap_i64 (by omega) (by omega)
      have ii := HI.out i (by omega)
      rw [HF1.out i h1 him] at ii
      go_wp2_with (first | ((with_reducible show wpList _ _ _ (⟨_, .load _ _, _, _, _, _⟩ :: _) _ _); first | (refine wpList_skip (by rfl) ?_; (try simp only [Act.put, List.setIfInBounds_toArray, List.set_cons_zero, List.set_cons_succ])) | (refine wl_load (by rfl) hm (by with_reducible first | exact at0 | exact at1 | exact at2) rfl (by first | exact undID) (by rfl) (by (try simp only [rowOf_size]); first | exact sizeID) ?_; (try simp only [Act.put, List.setIfInBounds_toArray, List.set_cons_zero, List.set_cons_succ]); (try simp only [← idV_eq]))) | ((with_reducible show wpList _ _ _ (⟨_, .store _ _ _, _, _, _, _⟩ :: _) _ _); first | (refine wpList_skip (by rfl) ?_; (try simp only [Act.put, List.setIfInBounds_toArray, List.set_cons_zero, List.set_cons_succ])) | (refine wl_store (by rfl) hm (by with_reducible first | exact at0 | exact at1 | exact at2) rfl rfl (by first | rfl | exact idV_eq _ | exact labV_eq _ _ | exact rectV_eq _ _ _ _) (by (try simp only [rowOf_size]); first | exact sizeID) (by first | (simp only [rowOf_size]; done) | rfl) (by first | rfl | (simp only [List.size_toArray, List.length_cons, List.all_toArray', List.all_cons, List.all_nil, Value.oneCell', Bool.and_true, Bool.and_self]; done) | (simp [Value.oneCell']; done) | exact rowOf_one _ _ (fun _ _ => rfl) | exact idC_one _ | (exact rowOf_one _ _ (by intro i _; repeat (first | rfl | split)))) ?_; clear hm; intro w1 hm; (try simp only [Act.put, List.setIfInBounds_toArray, List.set_cons_zero, List.set_cons_succ]); (try simp only [rowOf_set, List.setIfInBounds_toArray, List.set_cons_zero, List.set_cons_succ, Value.cells, Act.eval, Array.getD_eq_getD_getElem?, List.getElem?_toArray, List.getElem?_cons_zero, List.getElem?_cons_succ, Option.getD_some] at hm))) | ((with_reducible show wpList _ _ _ (⟨_, .alloc _, _, _, _, _⟩ :: _) _ _); refine wl_alloc (by rfl) (by first | exact zeroID) (by rfl) hm ?_; clear hm; intro b1 w1 hm; (try simp only [Act.put, List.setIfInBounds_toArray, List.set_cons_zero, List.set_cons_succ]); (try simp only [rowOf_set, List.setIfInBounds_toArray, List.set_cons_zero, List.set_cons_succ, Value.cells, Act.eval, Array.getD_eq_getD_getElem?, List.getElem?_toArray, List.getElem?_cons_zero, List.getElem?_cons_succ, Option.getD_some] at hm)) | ((with_reducible show wpList _ _ _ (⟨_, .box _ _, _, _, _, _⟩ :: _) _ _); refine wl_box (by rfl) rfl (by first | exact idV_cells _ | exact labV_cells _ _ | exact rectV_cells _ _ _ _ | rfl) hm ?_; clear hm; intro b1 w1 hm; (try simp only [Act.put, List.setIfInBounds_toArray, List.set_cons_zero, List.set_cons_succ])) | ((with_reducible show wpList _ _ _ (⟨_, .build _ _, _, _, _, _⟩ :: _) _ _); first | (refine wpList_skip (by rfl) ?_; (try simp only [Act.put, List.setIfInBounds_toArray, List.set_cons_zero, List.set_cons_succ]))) | ((with_reducible show wpList _ _ _ (⟨_, .buildSlice _ _ _, _, _, _, _⟩ :: _) _ _); first | (refine wpList_skip (by rfl) ?_; (try simp only [Act.put, List.setIfInBounds_toArray, List.set_cons_zero, List.set_cons_succ]))) | ((with_reducible show wpList _ _ _ (⟨_, .makeSlice _ _ _, _, _, _, _⟩ :: _) _ _); first | (refine wpList_skip (by rfl) ?_; (try simp only [Act.put, List.setIfInBounds_toArray, List.set_cons_zero, List.set_cons_succ]))) | ((with_reducible show wpList _ _ _ (⟨_, .call ⟨.builtin .append, _, _⟩, _, _, _, _⟩ :: _) _ _); first | (refine wpList_skip (by rfl) ?_; (try simp only [Act.put, List.setIfInBounds_toArray, List.set_cons_zero, List.set_cons_succ]))) | ((with_reducible show wpList _ _ _ (⟨_, .call ⟨.builtin .copy, _, _⟩, _, _, _, _⟩ :: _) _ _); first | (refine wpList_skip (by rfl) ?_; (try simp only [Act.put, List.setIfInBounds_toArray, List.set_cons_zero, List.set_cons_succ]))) | (go_at_call 40; refine (hpad _).mono ?_; rintro e w1 ⟨rfl, hx⟩; replace hm := hm.call hx; clear hx))
      go_roundw
      case rel => exact ⟨i + 1, by omega, by omega, by go_num, hm⟩
      case measure => (simp [intOf]; try omega)
    · obtain rfl : i = m := by omega
      go_wp2_with (first | ((with_reducible show wpList _ _ _ (⟨_, .load _ _, _, _, _, _⟩ :: _) _ _); first | (refine wpList_skip (by rfl) ?_; (try simp only [Act.put, List.setIfInBounds_toArray, List.set_cons_zero, List.set_cons_succ])) | (refine wl_load (by rfl) hm (by with_reducible first | exact at0 | exact at1 | exact at2) rfl (by first | exact undID) (by rfl) (by (try simp only [rowOf_size]); first | exact sizeID) ?_; (try simp only [Act.put, List.setIfInBounds_toArray, List.set_cons_zero, List.set_cons_succ]); (try simp only [← idV_eq]))) | ((with_reducible show wpList _ _ _ (⟨_, .store _ _ _, _, _, _, _⟩ :: _) _ _); first | (refine wpList_skip (by rfl) ?_; (try simp only [Act.put, List.setIfInBounds_toArray, List.set_cons_zero, List.set_cons_succ])) | (refine wl_store (by rfl) hm (by with_reducible first | exact at0 | exact at1 | exact at2) rfl rfl (by first | rfl | exact idV_eq _ | exact labV_eq _ _ | exact rectV_eq _ _ _ _) (by (try simp only [rowOf_size]); first | exact sizeID) (by first | (simp only [rowOf_size]; done) | rfl) (by first | rfl | (simp only [List.size_toArray, List.length_cons, List.all_toArray', List.all_cons, List.all_nil, Value.oneCell', Bool.and_true, Bool.and_self]; done) | (simp [Value.oneCell']; done) | exact rowOf_one _ _ (fun _ _ => rfl) | exact idC_one _ | (exact rowOf_one _ _ (by intro i _; repeat (first | rfl | split)))) ?_; clear hm; intro w1 hm; (try simp only [Act.put, List.setIfInBounds_toArray, List.set_cons_zero, List.set_cons_succ]); (try simp only [rowOf_set, List.setIfInBounds_toArray, List.set_cons_zero, List.set_cons_succ, Value.cells, Act.eval, Array.getD_eq_getD_getElem?, List.getElem?_toArray, List.getElem?_cons_zero, List.getElem?_cons_succ, Option.getD_some] at hm))) | ((with_reducible show wpList _ _ _ (⟨_, .alloc _, _, _, _, _⟩ :: _) _ _); refine wl_alloc (by rfl) (by first | exact zeroID) (by rfl) hm ?_; clear hm; intro b1 w1 hm; (try simp only [Act.put, List.setIfInBounds_toArray, List.set_cons_zero, List.set_cons_succ]); (try simp only [rowOf_set, List.setIfInBounds_toArray, List.set_cons_zero, List.set_cons_succ, Value.cells, Act.eval, Array.getD_eq_getD_getElem?, List.getElem?_toArray, List.getElem?_cons_zero, List.getElem?_cons_succ, Option.getD_some] at hm)) | ((with_reducible show wpList _ _ _ (⟨_, .box _ _, _, _, _, _⟩ :: _) _ _); refine wl_box (by rfl) rfl (by first | exact idV_cells _ | exact labV_cells _ _ | exact rectV_cells _ _ _ _ | rfl) hm ?_; clear hm; intro b1 w1 hm; (try simp only [Act.put, List.setIfInBounds_toArray, List.set_cons_zero, List.set_cons_succ])) | ((with_reducible show wpList _ _ _ (⟨_, .build _ _, _, _, _, _⟩ :: _) _ _); first | (refine wpList_skip (by rfl) ?_; (try simp only [Act.put, List.setIfInBounds_toArray, List.set_cons_zero, List.set_cons_succ]))) | ((with_reducible show wpList _ _ _ (⟨_, .buildSlice _ _ _, _, _, _, _⟩ :: _) _ _); first | (refine wpList_skip (by rfl) ?_; (try simp only [Act.put, List.setIfInBounds_toArray, List.set_cons_zero, List.set_cons_succ]))) | ((with_reducible show wpList _ _ _ (⟨_, .makeSlice _ _ _, _, _, _, _⟩ :: _) _ _); first | (refine wpList_skip (by rfl) ?_; (try simp only [Act.put, List.setIfInBounds_toArray, List.set_cons_zero, List.set_cons_succ]))) | ((with_reducible show wpList _ _ _ (⟨_, .call ⟨.builtin .append, _, _⟩, _, _, _, _⟩ :: _) _ _); first | (refine wpList_skip (by rfl) ?_; (try simp only [Act.put, List.setIfInBounds_toArray, List.set_cons_zero, List.set_cons_succ]))) | ((with_reducible show wpList _ _ _ (⟨_, .call ⟨.builtin .copy, _, _⟩, _, _, _, _⟩ :: _) _ _); first | (refine wpList_skip (by rfl) ?_; (try simp only [Act.put, List.setIfInBounds_toArray, List.set_cons_zero, List.set_cons_succ]))) | (go_at_call 40; refine (hpad _).mono ?_; rintro e w1 ⟨rfl, hx⟩; replace hm := hm.call hx; clear hx))
      go_loopw [6, 7] (fun vb vi wr => ∃ k : Nat, k ≤ 8 ∧ vi = .int .i64 ((i + k : Nat) : Int) ∧ vb = .int .i64 ((8 * n / 256 ^ (8 - k) : Nat) : Int) ∧ Mem w [] [] wr)
        (fun _ vi _ => (L - intOf vi).toNat)
      case atStart => exact ⟨0, by omega, rfl, by rw [show 8 * n / 256 ^ (8 - 0) = 0 from Nat.div_eq_of_lt (by show 8 * n < 256 ^ 8; omega)]; rfl, hm⟩
      case round =>
        clear hm
        obtain ⟨k, hk, rfl, rfl, hm⟩ := hrel
        by_cases h8 : k < 8
        · obtain ⟨q, hq⟩ : ∃ q, i + k = q := ⟨_, rfl⟩
          have e1 : (q : Int) < (L : Int) := by omega
          have ii := HI.out q (by omega)
          have hx := HF2.out q (by omega)
          rw [show L - 1 - q = 7 - k from by omega] at hx
          have HX := hid (show 8 * n / 256 ^ (8 - k) = 8 * n / 256 ^ (7 - k) / 256 from by rw [show 8 - k = (7 - k) + 1 from by omega, Nat.pow_succ, Nat.div_div_eq_div_mul])
          have hle := Nat.div_le_self (8 * n) (256 ^ (7 - k))
          have HY := hid (show 8 * n / 256 ^ (8 - (k + 1)) = 8 * n / 256 ^ (7 - k) from by rw [show 8 - (k + 1) = 7 - k from by omega])
          obtain ⟨x, hxx⟩ : ∃ x, 8 * n / 256 ^ (7 - k) = x := ⟨_, rfl⟩
          rw [hxx] at hx HX hle HY
          rw [hq, HX.out]
          obtain ⟨r, hr⟩ : ∃ r, x % 256 = r := ⟨_, rfl⟩
          obtain ⟨y, hy⟩ : ∃ y, x / 256 = y := ⟨_, rfl⟩
          rw [hr] at hx
          rw [hx] at ii
          rw [hy]
          have w1 : IntKind.i64.wrap (256 * (y : Int)) = 256 * (y : Int) := wrap_i64 (by omega) (by omega)
          have w2 : IntKind.i64.wrap (r : Int) = (r : Int) := wrap_i64 (by omega) (by omega)
          have w4 : IntKind.i64.wrap (256 * (y : Int) + (r : Int)) = (x : Int) := by rw [wrap_i64 (by omega) (by omega)]; omega
          have w3' : IntKind.i64.wrap ((q : Int) + 1) = (q : Int) + 1 := wrap_i64 (by omega) (by omega)
          have HQ := hid hq
          clear hr hy hx hxx hq
          go_wp2_with (first | ((with_reducible show wpList _ _ _ (⟨_, .load _ _, _, _, _, _⟩ :: _) _ _); first | (refine wpList_skip (by rfl) ?_; (try simp only [Act.put, List.setIfInBounds_toArray, List.set_cons_zero, List.set_cons_succ])) | (refine wl_load (by rfl) hm (by with_reducible first | exact at0 | exact at1 | exact at2) rfl (by first | exact undID) (by rfl) (by (try simp only [rowOf_size]); first | exact sizeID) ?_; (try simp only [Act.put, List.setIfInBounds_toArray, List.set_cons_zero, List.set_cons_succ]); (try simp only [← idV_eq]))) | ((with_reducible show wpList _ _ _ (⟨_, .store _ _ _, _, _, _, _⟩ :: _) _ _); first | (refine wpList_skip (by rfl) ?_; (try simp only [Act.put, List.setIfInBounds_toArray, List.set_cons_zero, List.set_cons_succ])) | (refine wl_store (by rfl) hm (by with_reducible first | exact at0 | exact at1 | exact at2) rfl rfl (by first | rfl | exact idV_eq _ | exact labV_eq _ _ | exact rectV_eq _ _ _ _) (by (try simp only [rowOf_size]); first | exact sizeID) (by first | (simp only [rowOf_size]; done) | rfl) (by first | rfl | (simp only [List.size_toArray, List.length_cons, List.all_toArray', List.all_cons, List.all_nil, Value.oneCell', Bool.and_true, Bool.and_self]; done) | (simp [Value.oneCell']; done) | exact rowOf_one _ _ (fun _ _ => rfl) | exact idC_one _ | (exact rowOf_one _ _ (by intro i _; repeat (first | rfl | split)))) ?_; clear hm; intro w1 hm; (try simp only [Act.put, List.setIfInBounds_toArray, List.set_cons_zero, List.set_cons_succ]); (try simp only [rowOf_set, List.setIfInBounds_toArray, List.set_cons_zero, List.set_cons_succ, Value.cells, Act.eval, Array.getD_eq_getD_getElem?, List.getElem?_toArray, List.getElem?_cons_zero, List.getElem?_cons_succ, Option.getD_some] at hm))) | ((with_reducible show wpList _ _ _ (⟨_, .alloc _, _, _, _, _⟩ :: _) _ _); refine wl_alloc (by rfl) (by first | exact zeroID) (by rfl) hm ?_; clear hm; intro b1 w1 hm; (try simp only [Act.put, List.setIfInBounds_toArray, List.set_cons_zero, List.set_cons_succ]); (try simp only [rowOf_set, List.setIfInBounds_toArray, List.set_cons_zero, List.set_cons_succ, Value.cells, Act.eval, Array.getD_eq_getD_getElem?, List.getElem?_toArray, List.getElem?_cons_zero, List.getElem?_cons_succ, Option.getD_some] at hm)) | ((with_reducible show wpList _ _ _ (⟨_, .box _ _, _, _, _, _⟩ :: _) _ _); refine wl_box (by rfl) rfl (by first | exact idV_cells _ | exact labV_cells _ _ | exact rectV_cells _ _ _ _ | rfl) hm ?_; clear hm; intro b1 w1 hm; (try simp only [Act.put, List.setIfInBounds_toArray, List.set_cons_zero, List.set_cons_succ])) | ((with_reducible show wpList _ _ _ (⟨_, .build _ _, _, _, _, _⟩ :: _) _ _); first | (refine wpList_skip (by rfl) ?_; (try simp only [Act.put, List.setIfInBounds_toArray, List.set_cons_zero, List.set_cons_succ]))) | ((with_reducible show wpList _ _ _ (⟨_, .buildSlice _ _ _, _, _, _, _⟩ :: _) _ _); first | (refine wpList_skip (by rfl) ?_; (try simp only [Act.put, List.setIfInBounds_toArray, List.set_cons_zero, List.set_cons_succ]))) | ((with_reducible show wpList _ _ _ (⟨_, .makeSlice _ _ _, _, _, _, _⟩ :: _) _ _); first | (refine wpList_skip (by rfl) ?_; (try simp only [Act.put, List.setIfInBounds_toArray, List.set_cons_zero, List.set_cons_succ]))) | ((with_reducible show wpList _ _ _ (⟨_, .call ⟨.builtin .append, _, _⟩, _, _, _, _⟩ :: _) _ _); first | (refine wpList_skip (by rfl) ?_; (try simp only [Act.put, List.setIfInBounds_toArray, List.set_cons_zero, List.set_cons_succ]))) | ((with_reducible show wpList _ _ _ (⟨_, .call ⟨.builtin .copy, _, _⟩, _, _, _, _⟩ :: _) _ _); first | (refine wpList_skip (by rfl) ?_; (try simp only [Act.put, List.setIfInBounds_toArray, List.set_cons_zero, List.set_cons_succ]))) | (go_at_call 40; refine (hpad _).mono ?_; rintro e w1 ⟨rfl, hx⟩; replace hm := hm.call hx; clear hx))
          go_roundw
          case rel => exact ⟨k + 1, by omega, by rw [← HQ.out]; go_num, by rw [HY.out], hm⟩
          case measure => (simp [intOf]; try omega)
        · obtain rfl : k = 8 := by omega
          have w1 : IntKind.i64.wrap (8 * (n : Int)) = 8 * (n : Int) := wrap_i64 (by omega) (by omega)
          have e0 : 8 * n / 256 ^ (8 - 8) = 8 * n := by simp
          obtain ⟨q, hq⟩ : ∃ q, i + 8 = q := ⟨_, rfl⟩
          obtain rfl : q = L := by omega
          rw [e0, hq]
          go_wp2_with (first | ((with_reducible show wpList _ _ _ (⟨_, .load _ _, _, _, _, _⟩ :: _) _ _); first | (refine wpList_skip (by rfl) ?_; (try simp only [Act.put, List.setIfInBounds_toArray, List.set_cons_zero, List.set_cons_succ])) | (refine wl_load (by rfl) hm (by with_reducible first | exact at0 | exact at1 | exact at2) rfl (by first | exact undID) (by rfl) (by (try simp only [rowOf_size]); first | exact sizeID) ?_; (try simp only [Act.put, List.setIfInBounds_toArray, List.set_cons_zero, List.set_cons_succ]); (try simp only [← idV_eq]))) | ((with_reducible show wpList _ _ _ (⟨_, .store _ _ _, _, _, _, _⟩ :: _) _ _); first | (refine wpList_skip (by rfl) ?_; (try simp only [Act.put, List.setIfInBounds_toArray, List.set_cons_zero, List.set_cons_succ])) | (refine wl_store (by rfl) hm (by with_reducible first | exact at0 | exact at1 | exact at2) rfl rfl (by first | rfl | exact idV_eq _ | exact labV_eq _ _ | exact rectV_eq _ _ _ _) (by (try simp only [rowOf_size]); first | exact sizeID) (by first | (simp only [rowOf_size]; done) | rfl) (by first | rfl | (simp only [List.size_toArray, List.length_cons, List.all_toArray', List.all_cons, List.all_nil, Value.oneCell', Bool.and_true, Bool.and_self]; done) | (simp [Value.oneCell']; done) | exact rowOf_one _ _ (fun _ _ => rfl) | exact idC_one _ | (exact rowOf_one _ _ (by intro i _; repeat (first | rfl | split)))) ?_; clear hm; intro w1 hm; (try simp only [Act.put, List.setIfInBounds_toArray, List.set_cons_zero, List.set_cons_succ]); (try simp only [rowOf_set, List.setIfInBounds_toArray, List.set_cons_zero, List.set_cons_succ, Value.cells, Act.eval, Array.getD_eq_getD_getElem?, List.getElem?_toArray, List.getElem?_cons_zero, List.getElem?_cons_succ, Option.getD_some] at hm))) | ((with_reducible show wpList _ _ _ (⟨_, .alloc _, _, _, _, _⟩ :: _) _ _); refine wl_alloc (by rfl) (by first | exact zeroID) (by rfl) hm ?_; clear hm; intro b1 w1 hm; (try simp only [Act.put, List.setIfInBounds_toArray, List.set_cons_zero, List.set_cons_succ]); (try simp only [rowOf_set, List.setIfInBounds_toArray, List.set_cons_zero, List.set_cons_succ, Value.cells, Act.eval, Array.getD_eq_getD_getElem?, List.getElem?_toArray, List.getElem?_cons_zero, List.getElem?_cons_succ, Option.getD_some] at hm)) | ((with_reducible show wpList _ _ _ (⟨_, .box _ _, _, _, _, _⟩ :: _) _ _); refine wl_box (by rfl) rfl (by first | exact idV_cells _ | exact labV_cells _ _ | exact rectV_cells _ _ _ _ | rfl) hm ?_; clear hm; intro b1 w1 hm; (try simp only [Act.put, List.setIfInBounds_toArray, List.set_cons_zero, List.set_cons_succ])) | ((with_reducible show wpList _ _ _ (⟨_, .build _ _, _, _, _, _⟩ :: _) _ _); first | (refine wpList_skip (by rfl) ?_; (try simp only [Act.put, List.setIfInBounds_toArray, List.set_cons_zero, List.set_cons_succ]))) | ((with_reducible show wpList _ _ _ (⟨_, .buildSlice _ _ _, _, _, _, _⟩ :: _) _ _); first | (refine wpList_skip (by rfl) ?_; (try simp only [Act.put, List.setIfInBounds_toArray, List.set_cons_zero, List.set_cons_succ]))) | ((with_reducible show wpList _ _ _ (⟨_, .makeSlice _ _ _, _, _, _, _⟩ :: _) _ _); first | (refine wpList_skip (by rfl) ?_; (try simp only [Act.put, List.setIfInBounds_toArray, List.set_cons_zero, List.set_cons_succ]))) | ((with_reducible show wpList _ _ _ (⟨_, .call ⟨.builtin .append, _, _⟩, _, _, _, _⟩ :: _) _ _); first | (refine wpList_skip (by rfl) ?_; (try simp only [Act.put, List.setIfInBounds_toArray, List.set_cons_zero, List.set_cons_succ]))) | ((with_reducible show wpList _ _ _ (⟨_, .call ⟨.builtin .copy, _, _⟩, _, _, _, _⟩ :: _) _ _); first | (refine wpList_skip (by rfl) ?_; (try simp only [Act.put, List.setIfInBounds_toArray, List.set_cons_zero, List.set_cons_succ]))) | (go_at_call 47; refine (known_c _).mono ?_; rintro e w1 ⟨rfl, hx⟩; replace hm := hm.call hx; clear hx))
          go_ret
          exact ⟨rfl, hm.ext⟩

theorem walk (s : ByteArray) (hs : s.size ≤ maxLen) (w : World) :
    Calls Try.prog 10 #[.string s] w fun e w' => e = .returned (.bool true) ∧ Ext w w' := by
  by_cases h : 2000 < s.size
  · exact walk_long s h w
  · exact walk_short s (by omega) w

set_option maxRecDepth 100000 in
theorem lifted (os : Os) (started : os.Started) (H : Type) (enc : TypeId × Value → H) :
    ReturnsInHanded {} Try.checked os 10 .any (Rows.shaPadsSpec.pre6 enc Try.prog Try.f10 Rows.shaPadsRow.domain false) (Rows.shaPadsSpec.post enc Try.prog Try.f10 false true false false) := by
  refine returnsInHanded_of_change (C := Try.checked) own started (by kernel_rfl) Try.func10
    (ChangeSpec.witness6 (enc := enc) (C := Try.checked) false ⟨#[], #[.string ByteArray.empty], []⟩ 8 (by kernel_rfl) (by kernel_rfl) (by kernel_rfl) (by kernel_rfl)) ?_
  intro W base args ds gs before hval0 hW hcnd _
  have hval : ∀ (j : Nat) t v, Try.f10.params[j]? = some t → args[j]? = some v → Value.okWide Try.prog W .any base t v := hval0
  have hW' := hW
  obtain ⟨p, q, hA0, hV, rfl, hfz, hnd⟩ := hW
  have hA : DataW.TrodAll enc Try.prog W 0 (fun _ => true) true Try.f10.params.toList args.toList ds p := hA0
  rw [Try.params10] at hA hval
  obtain ⟨v0, vs0, d0, ds0, p0, q0, hargs, rfl, rfl, h0, r0⟩ := trodAll_cons hA
  obtain ⟨rfl, rfl, rfl⟩ := trodAll_nil r0
  obtain rfl : args = #[v0] := by cases args; simp_all
  obtain ⟨rfl, rfl⟩ := trodVars_none hV
  have k0 := h0
  have lt0 : ∀ x ∈ p0, x.block < W.heap.size := by obtain ⟨m, hm⟩ := k0; exact DataW.trod_lt m _ _ _ hm
  obtain ⟨a0, rfl, _, _, w0⟩ := Go.ChangeMaps.open_string Try.underlying9 (hval 0 9 v0 rfl rfl) h0
  clear hA0 hval0
  refine (walk a0 w0 W).mono fun e W' ⟨he, ext⟩ => ?_
  subst he
  have bel := ext.below
  exact ⟨_, rfl, _, _, _, [], _, [], hW', trodAll_mk1 (shut_bool Try.underlying4 _), (trodAll_cons_mk (Below.trod laidOut (by kernel_rfl) (of_decide_eq_true (by kernel_rfl)) k0 bel lt0) trodAll_mk0), rfl, bel.frame _, fun h => by cases h⟩

theorem over : Rows.shaPadsRow.holds Try.pinned (OpenSpec.ofChange Rows.shaPadsSpec) :=
  OpenClaim.holds_of_wide 10 Try.f10 rfl rfl rfl rfl rfl rfl rfl ⟨rfl, rfl, rfl, rfl, rfl⟩ rfl rfl rfl rfl rfl (by kernel_rfl) Try.func10 (by kernel_rfl)
    (of_decide_eq_true (by kernel_rfl)) (by unfold Func.isWrapper; first | (rw [if_pos (by decide +kernel)]; kernel_rfl) | (rw [if_neg (by decide +kernel)]; exact ⟨rfl, rfl⟩))
    (fun os started H enc _ => lifted os started H enc)

theorem proved : Rows.ShaPadsSaid := over
#print axioms proved
end Go.Proofs.Ytdlfgoiakkkilaa.lawSPads
