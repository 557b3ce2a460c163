/-
  Labels: the document's rows.
-/
import Derived.Test.YtdlfgoiakkkilaaLabC
import Derived.Test.YtdlfgoiakkkilaaLabT
import Derived.Test.YtdlfgoiakkkilaaLabU
namespace Go.Proofs.Ytdlfgoiakkkilaa
open Go.RowKit
set_option linter.unusedSimpArgs false
set_option linter.unusedVariables false
set_option maxHeartbeats 1000000
set_option maxRecDepth 20000
attribute [local irreducible] wpQuiet wpList wpAnyH Calls

theorem cut_doc (w : World) : Calls Try.prog 57 #[.string { data := #[48, 49] }, .string { data := #[47] }] w fun e w' => e = .returned (.tuple #[.string { data := #[48, 49] }, .bool false]) ∧ Ext w w' := by
  refine (Try.strings_CutPrefix { data := #[48, 49] } { data := #[47] } w).mono ?_
  rintro e w' ⟨rfl, rfl⟩
  exact ⟨by rw [show Lib.hasPrefix ({ data := #[48, 49] } : ByteArray).data.toList ({ data := #[47] } : ByteArray).data.toList = false from by decide +kernel, show Lib.trimPrefix ({ data := #[48, 49] } : ByteArray).data.toList ({ data := #[47] } : ByteArray).data.toList = [48, 49] from by decide +kernel], Ext.refl _⟩
theorem parse_doc2 (w : World) : Calls Try.prog 18 #[.string { data := #[48, 49] }] w fun e w' => e = .returned (.tuple #[.agg #[.int .i64 0, .int .u64 0], .int .i64 3]) ∧ Ext w w' := by
  go_enter Try.func18, Try.ntmps18
  have hm := Mem.refl w []
  go_wp2_with ((first | refine wpList_skip (by rfl) ?_ | (refine wlL (hm := hm) (hu := by first | exact undLabel) (hi := by (try simp only [rowOf_size]); first | exact sizeLabel) (h := ?_); (try simp only [Act.put, k1, k2, k3]); (try simp only [if_true])) | refine wlLC (hm := hm) (hu := by first | exact undInt | exact undU64) (h := ?_) | (refine wlS (hm := hm) (hv := (by first | rfl | exact idV_eq _ | exact labV_eq _ _ | exact rectV_eq _ _ _ _)) (hi := by (try simp only [rowOf_size]); first | exact sizeLabel) (hs := by first | (simp only [rowOf_size]; done) | rfl) (h := ?_); clear hm; intro w1 hm; (try simp only [rowOf_set, k1, k2, k3, Value.cells, Act.eval, k7, k8, k9, kA, Option.getD_some] at hm)) | (refine wlSC (hm := hm) (hi := by first | exact sizeInt | exact sizeU64) (ho := by first | decide | (simp only [rowOf_size]; omega) | (simp; done)) (h := ?_); clear hm; intro w1 hm; (try simp only [rowOf_set, k1, k2, k3, Value.cells, Act.eval, k7, k8, k9, kA, Option.getD_some] at hm)) | (refine wlA (hz := by first | exact zeroLabel) (hm := hm) (h := ?_); clear hm; intro b1 w1 hm; (try simp only [rowOf_set, k1, k2, k3, Value.cells, Act.eval, k7, k8, k9, kA, Option.getD_some] at hm)) | (refine wl_box (by rfl) rfl (by first | exact idV_cells _ | exact labV_cells _ _ | exact rectV_cells _ _ _ _ | rfl) hm ?_; clear hm; intro b1 w1 hm) | (refine wl_build (by rfl) (built_zeroL) rfl ?_; (try simp only [Act.put, k1, k2, k3]); (try simp only [if_true])) | (refine wl_build (by rfl) (built_lab _ _) rfl ?_; (try simp only [Act.put, k1, k2, k3]); (try simp only [if_true])) | (go_at_call 57; refine (cut_doc _).mono ?_; rintro e w1 ⟨rfl, hx⟩; replace hm := hm.call hx; clear hx)); (try simp only [k4, k5, k6, Act.put, k1, k2, k3]))
  refine bodyPost_ret (results_row_tmp (h := rfl) _ _ _ _ _ _ _ rfl (hm.heap (i := 0) rfl) undLabel rfl (by first | exact sizeLabel | (simp only [rowOf_size]; exact sizeLabel))) rfl ?_
  exact ⟨rfl, hm.ext⟩
def docB : ByteArray := { data := #[48, 49] }
theorem parse_doc (w : World) : Calls Try.prog 18 #[.string { data := #[47, 48, 49] }] w fun e w' => e = .returned (.tuple #[.agg #[.int .i64 2, .int .u64 4611686018427387904], .int .i64 0]) ∧ Ext w w' := by
  have h := parse_ok { data := #[47, 48, 49] } docB (fun j => if j = 1 then 49 else 48) (by decide +kernel) (by decide +kernel) (by decide +kernel) (by decide +kernel)
    (by intro j hj; have hj' : j < 2 := hj
        rcases (show j = 0 ∨ j = 1 by omega) with rfl | rfl <;> rfl)
    (by intro j hj; show (if j = 1 then 49 else 48) = 48 ∨ (if j = 1 then 49 else 48) = 49; split <;> simp) w
  rw [show (docB.size : Int) = 2 from rfl, show accB (fun j => if j = 1 then 49 else 48) docB.size = 4611686018427387904 from by decide +kernel, labV_eq] at h
  exact h
theorem span_doc (w : World) : Calls Try.prog 26 #[.agg #[.int .i64 2, .int .u64 4611686018427387904]] w fun e w' => e = .returned (.tuple #[.int .u64 4611686018427387904, .int .u64 9223372036854775807, .int .i64 0]) ∧ Ext w w' := by
  have h := span_true 2 4611686018427387904 (by decide +kernel) (by decide) (by decide) w
  rw [labV_eq, show hiL 2 4611686018427387904 = 9223372036854775807 from by decide +kernel] at h
  exact h
theorem parent_doc (w : World) : Calls Try.prog 22 #[.agg #[.int .i64 2, .int .u64 4611686018427387904]] w fun e w' => e = .returned (.tuple #[.agg #[.int .i64 1, .int .u64 0], .int .i64 0]) ∧ Ext w w' := by
  have h := parent_ok 2 4611686018427387904 (by decide +kernel) (by decide) (by decide) (by decide) w
  rw [labV_eq, show par 4611686018427387904 2 = 0 from by rw [par_eq]; decide +kernel, labV_eq] at h
  exact h
theorem parent_doc2 (w : World) : Calls Try.prog 22 #[.agg #[.int .i64 0, .int .u64 0]] w fun e w' => e = .returned (.tuple #[.agg #[.int .i64 0, .int .u64 0], .int .i64 7]) ∧ Ext w w' := by
  have h := parent_none 0 (by decide +kernel) (by decide) w
  rw [labV_eq] at h
  exact h
theorem sibling_doc (w : World) : Calls Try.prog 24 #[.agg #[.int .i64 2, .int .u64 4611686018427387904]] w fun e w' => e = .returned (.tuple #[.agg #[.int .i64 2, .int .u64 0], .int .i64 0]) ∧ Ext w w' := by
  have h := sibling_ok 2 4611686018427387904 (by decide +kernel) (by decide) (by decide) (by decide) w
  rw [labV_eq, show sib 4611686018427387904 2 = 0 from by rw [sib_eq]; decide +kernel, labV_eq] at h
  exact h
theorem text_doc (w : World) : Calls Try.prog 14 #[.agg #[.int .i64 2, .int .u64 0]] w fun e w' => e = .returned (.tuple #[.string { data := #[47, 48, 48] }, .int .i64 0]) ∧ Ext w w' := by
  have h := text_true 2 0 (by decide +kernel) (by decide) (by decide) w
  rw [labV_eq, show textL 2 0 = { data := #[47, 48, 48] } from by rw [textL_eq]; unfold bytesB letL; decide +kernel] at h
  exact h
theorem text_doc2 (w : World) : Calls Try.prog 14 #[.agg #[.int .i64 1, .int .u64 0]] w fun e w' => e = .returned (.tuple #[.string { data := #[47, 48] }, .int .i64 0]) ∧ Ext w w' := by
  have h := text_true 1 0 (by decide +kernel) (by decide) (by decide) w
  rw [labV_eq, show textL 1 0 = { data := #[47, 48] } from by rw [textL_eq]; unfold bytesB letL; decide +kernel] at h
  exact h
theorem is_doc (w : World) : Calls Try.prog 17 #[.agg #[.int .i64 2, .int .u64 4611686018427387904]] w fun e w' => e = .returned (.bool true) ∧ Ext w w' := by
  have h := is_true 2 4611686018427387904 (by decide) (by decide +kernel) w
  rw [labV_eq] at h
  exact h
theorem is_doc2 (w : World) : Calls Try.prog 17 #[.agg #[.int .i64 1, .int .u64 1]] w fun e w' => e = .returned (.bool false) ∧ Ext w w' := by
  have h := is_false 1 1 (by decide) (by decide +kernel) w
  rw [labV_eq] at h
  exact h

theorem named_c (w : World) : Calls Try.prog 16 #[] w fun e w' => e = .returned (.bool true) ∧ Ext w w' := by
  go_enter Try.func16, Try.ntmps16
  have hm := Mem.refl w []
  go_wp2_with ((first | refine wpList_skip (by rfl) ?_ | (refine wlL (hm := hm) (hu := by first | exact undLabel) (hi := by (try simp only [rowOf_size]); first | exact sizeLabel) (h := ?_); (try simp only [Act.put, k1, k2, k3]); (try simp only [if_true])) | refine wlLC (hm := hm) (hu := by first | exact undInt | exact undU64) (h := ?_) | (refine wlS (hm := hm) (hv := (by first | rfl | exact idV_eq _ | exact labV_eq _ _ | exact rectV_eq _ _ _ _)) (hi := by (try simp only [rowOf_size]); first | exact sizeLabel) (hs := by first | (simp only [rowOf_size]; done) | rfl) (h := ?_); clear hm; intro w1 hm; (try simp only [rowOf_set, k1, k2, k3, Value.cells, Act.eval, k7, k8, k9, kA, Option.getD_some] at hm)) | (refine wlSC (hm := hm) (hi := by first | exact sizeInt | exact sizeU64) (ho := by first | decide | (simp only [rowOf_size]; omega) | (simp; done)) (h := ?_); clear hm; intro w1 hm; (try simp only [rowOf_set, k1, k2, k3, Value.cells, Act.eval, k7, k8, k9, kA, Option.getD_some] at hm)) | (refine wlA (hz := by first | exact zeroLabel) (hm := hm) (h := ?_); clear hm; intro b1 w1 hm; (try simp only [rowOf_set, k1, k2, k3, Value.cells, Act.eval, k7, k8, k9, kA, Option.getD_some] at hm)) | (refine wl_box (by rfl) rfl (by first | exact idV_cells _ | exact labV_cells _ _ | exact rectV_cells _ _ _ _ | rfl) hm ?_; clear hm; intro b1 w1 hm) | (refine wl_build (by rfl) (built_zeroL) rfl ?_; (try simp only [Act.put, k1, k2, k3]); (try simp only [if_true])) | (refine wl_build (by rfl) (built_lab _ _) rfl ?_; (try simp only [Act.put, k1, k2, k3]); (try simp only [if_true])) | (go_at_call 18; refine (parse_doc _).mono ?_; rintro e w1 ⟨rfl, hx⟩; replace hm := hm.call hx; clear hx) | (go_at_call 18; refine (parse_doc2 _).mono ?_; rintro e w1 ⟨rfl, hx⟩; replace hm := hm.call hx; clear hx) | (go_at_call 26; refine (span_doc _).mono ?_; rintro e w1 ⟨rfl, hx⟩; replace hm := hm.call hx; clear hx) | (go_at_call 22; refine (parent_doc _).mono ?_; rintro e w1 ⟨rfl, hx⟩; replace hm := hm.call hx; clear hx) | (go_at_call 22; refine (parent_doc2 _).mono ?_; rintro e w1 ⟨rfl, hx⟩; replace hm := hm.call hx; clear hx) | (go_at_call 24; refine (sibling_doc _).mono ?_; rintro e w1 ⟨rfl, hx⟩; replace hm := hm.call hx; clear hx) | (go_at_call 14; refine (text_doc _).mono ?_; rintro e w1 ⟨rfl, hx⟩; replace hm := hm.call hx; clear hx) | (go_at_call 14; refine (text_doc2 _).mono ?_; rintro e w1 ⟨rfl, hx⟩; replace hm := hm.call hx; clear hx) | (go_at_call 17; refine (is_doc _).mono ?_; rintro e w1 ⟨rfl, hx⟩; replace hm := hm.call hx; clear hx) | (go_at_call 17; refine (is_doc2 _).mono ?_; rintro e w1 ⟨rfl, hx⟩; replace hm := hm.call hx; clear hx)); (try simp only [k4, k5, k6, Act.put, k1, k2, k3]))
  go_ret
  exact ⟨rfl, hm.ext⟩
end Go.Proofs.Ytdlfgoiakkkilaa
