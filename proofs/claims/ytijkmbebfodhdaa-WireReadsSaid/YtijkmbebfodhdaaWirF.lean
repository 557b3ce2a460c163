/-
  Wire: a reader's Number.
-/
import Derived.Test.YtijkmbebfodhdaaWirE
namespace Go.Proofs.Ytijkmbebfodhdaa
open Go.RowKit
set_option linter.unusedSimpArgs false
set_option linter.unusedVariables false
set_option maxHeartbeats 1000000
set_option maxRecDepth 20000
attribute [local irreducible] wpQuiet wpList wpAnyH Calls

theorem readU_nil (g : Value) : Says 48 #[.pointer none, g] (.tuple #[.int .u64 0, .int .i64 6]) := by
  intro w
  go_enter Try.func48, Try.ntmps48
  have hm := Mem.refl w []
  go_wp2_with ((first | refine wpList_skip (by rfl) ?_ | (refine wlL (hm := hm) (hu := by first | exact undID | exact undLabel) (hi := by (try simp only [rowOf_size, idC_size]); first | exact sizeID | exact sizeLabel) (h := ?_); (try simp only [Act.put, k1, k2, k3]); (try simp only [← labV_eq, ← idV_eq])) | refine wlLC (hm := hm) (hu := by first | exact undStr | exact undByteI | exact undInt | exact undU64) (h := ?_) | (refine wlS (hm := hm) (hv := (by first | rfl | exact idV_eq _ | exact labV_eq _ _ | exact rectV_eq _ _ _ _)) (hi := by (try simp only [rowOf_size, idC_size]); first | exact sizeID | exact sizeLabel) (hs := by first | (simp only [rowOf_size, idC_size]; done) | rfl) (h1 := by first | rfl | exact idC_one _ | exact rowOf_one _ _ (fun _ _ => rfl) | (simp only [List.size_toArray, List.length_cons, List.all_toArray', List.all_cons, List.all_nil, Value.oneCell', Bool.and_true, Bool.and_self]; done) | (simp [Value.oneCell']; done)) (h := ?_); clear hm; intro w1 hm; (try simp only [rowOf_set, k1, k2, k3, Value.cells, Act.eval, k7, k8, k9, kA, Option.getD_some] at hm)) | (refine wlSC (hm := hm) (hi := by first | exact sizeStr | exact sizeByteI | exact sizeInt | exact sizeU64) (ho := by first | decide | (simp only [rowOf_size, idC_size]; omega) | (simp; done)) (h := ?_); clear hm; intro w1 hm; (try simp only [rowOf_set, k1, k2, k3, Value.cells, Act.eval, k7, k8, k9, kA, Option.getD_some] at hm)) | (refine wlA (hz := by first | exact zeroID | exact zeroLabel) (hm := hm) (h := ?_); clear hm; intro b1 w1 hm; (try simp only [rowOf_set, k1, k2, k3, Value.cells, Act.eval, k7, k8, k9, kA, Option.getD_some] at hm)) | (refine wl_box (by rfl) rfl (by first | exact idV_cells _ | exact labV_cells _ _ | exact rectV_cells _ _ _ _ | rfl) hm ?_; clear hm; intro b1 w1 hm) | (go_at_call 49; refine (h1 _ (hm.heap (by with_reducible first | exact at0 | exact at1 | exact at2 | exact at3))).mono ?_; rintro e w1 ⟨rfl, hx⟩; replace hm := hm.callAt (by with_reducible first | exact at0 | exact at1 | exact at2 | exact at3) hx; clear hx; simp only [k2, k3] at hm) | (with_reducible first | refine stBs ?_ | refine stMs ?_ | refine stAp ?_ | refine stCo ?_)); (try simp only [k4, k5, k6, Act.put, k1, k2, k3]))
  go_ret2
  exact ⟨rfl, hm.ext⟩
theorem readU_ok (b : Nat) (s r : ByteArray) (v : Int) (h1 : Takes 49 #[.pointer (some ⟨b, 0, none⟩)] b s (.tuple #[.int .u64 v, .int .i64 0]) r) :
    Takes 48 #[.pointer (some ⟨b, 0, none⟩), .func (.func 49) #[.pointer (some ⟨b, 0, none⟩)] #[]] b s (.tuple #[.int .u64 v, .int .i64 0]) r := by
  intro w hw
  go_enter Try.func48, Try.ntmps48
  have hm := Mem.start hw
  go_wp2_with ((first | refine wpList_skip (by rfl) ?_ | (refine wlL (hm := hm) (hu := by first | exact undID | exact undLabel) (hi := by (try simp only [rowOf_size, idC_size]); first | exact sizeID | exact sizeLabel) (h := ?_); (try simp only [Act.put, k1, k2, k3]); (try simp only [← labV_eq, ← idV_eq])) | refine wlLC (hm := hm) (hu := by first | exact undStr | exact undByteI | exact undInt | exact undU64) (h := ?_) | (refine wlS (hm := hm) (hv := (by first | rfl | exact idV_eq _ | exact labV_eq _ _ | exact rectV_eq _ _ _ _)) (hi := by (try simp only [rowOf_size, idC_size]); first | exact sizeID | exact sizeLabel) (hs := by first | (simp only [rowOf_size, idC_size]; done) | rfl) (h1 := by first | rfl | exact idC_one _ | exact rowOf_one _ _ (fun _ _ => rfl) | (simp only [List.size_toArray, List.length_cons, List.all_toArray', List.all_cons, List.all_nil, Value.oneCell', Bool.and_true, Bool.and_self]; done) | (simp [Value.oneCell']; done)) (h := ?_); clear hm; intro w1 hm; (try simp only [rowOf_set, k1, k2, k3, Value.cells, Act.eval, k7, k8, k9, kA, Option.getD_some] at hm)) | (refine wlSC (hm := hm) (hi := by first | exact sizeStr | exact sizeByteI | exact sizeInt | exact sizeU64) (ho := by first | decide | (simp only [rowOf_size, idC_size]; omega) | (simp; done)) (h := ?_); clear hm; intro w1 hm; (try simp only [rowOf_set, k1, k2, k3, Value.cells, Act.eval, k7, k8, k9, kA, Option.getD_some] at hm)) | (refine wlA (hz := by first | exact zeroID | exact zeroLabel) (hm := hm) (h := ?_); clear hm; intro b1 w1 hm; (try simp only [rowOf_set, k1, k2, k3, Value.cells, Act.eval, k7, k8, k9, kA, Option.getD_some] at hm)) | (refine wl_box (by rfl) rfl (by first | exact idV_cells _ | exact labV_cells _ _ | exact rectV_cells _ _ _ _ | rfl) hm ?_; clear hm; intro b1 w1 hm) | (go_at_call 49; refine (h1 _ (hm.heap (by with_reducible first | exact at0 | exact at1 | exact at2 | exact at3))).mono ?_; rintro e w1 ⟨rfl, hx⟩; replace hm := hm.callAt (by with_reducible first | exact at0 | exact at1 | exact at2 | exact at3) hx; clear hx; simp only [k2, k3] at hm) | (with_reducible first | refine stBs ?_ | refine stMs ?_ | refine stAp ?_ | refine stCo ?_)); (try simp only [k4, k5, k6, Act.put, k1, k2, k3]))
  go_ret2
  exact ⟨rfl, hm⟩
theorem readU_err (b : Nat) (s r : ByteArray) (v e : Int) (he : e ≠ 0) (h1 : Takes 49 #[.pointer (some ⟨b, 0, none⟩)] b s (.tuple #[.int .u64 v, .int .i64 e]) r) :
    Takes 48 #[.pointer (some ⟨b, 0, none⟩), .func (.func 49) #[.pointer (some ⟨b, 0, none⟩)] #[]] b s (.tuple #[.int .u64 0, .int .i64 e]) s := by
  intro w hw
  have he1 : (e != 0) = true := by simp [bne, he]
  go_enter Try.func48, Try.ntmps48
  have hm := Mem.start hw
  go_wp2_with ((first | refine wpList_skip (by rfl) ?_ | (refine wlL (hm := hm) (hu := by first | exact undID | exact undLabel) (hi := by (try simp only [rowOf_size, idC_size]); first | exact sizeID | exact sizeLabel) (h := ?_); (try simp only [Act.put, k1, k2, k3]); (try simp only [← labV_eq, ← idV_eq])) | refine wlLC (hm := hm) (hu := by first | exact undStr | exact undByteI | exact undInt | exact undU64) (h := ?_) | (refine wlS (hm := hm) (hv := (by first | rfl | exact idV_eq _ | exact labV_eq _ _ | exact rectV_eq _ _ _ _)) (hi := by (try simp only [rowOf_size, idC_size]); first | exact sizeID | exact sizeLabel) (hs := by first | (simp only [rowOf_size, idC_size]; done) | rfl) (h1 := by first | rfl | exact idC_one _ | exact rowOf_one _ _ (fun _ _ => rfl) | (simp only [List.size_toArray, List.length_cons, List.all_toArray', List.all_cons, List.all_nil, Value.oneCell', Bool.and_true, Bool.and_self]; done) | (simp [Value.oneCell']; done)) (h := ?_); clear hm; intro w1 hm; (try simp only [rowOf_set, k1, k2, k3, Value.cells, Act.eval, k7, k8, k9, kA, Option.getD_some] at hm)) | (refine wlSC (hm := hm) (hi := by first | exact sizeStr | exact sizeByteI | exact sizeInt | exact sizeU64) (ho := by first | decide | (simp only [rowOf_size, idC_size]; omega) | (simp; done)) (h := ?_); clear hm; intro w1 hm; (try simp only [rowOf_set, k1, k2, k3, Value.cells, Act.eval, k7, k8, k9, kA, Option.getD_some] at hm)) | (refine wlA (hz := by first | exact zeroID | exact zeroLabel) (hm := hm) (h := ?_); clear hm; intro b1 w1 hm; (try simp only [rowOf_set, k1, k2, k3, Value.cells, Act.eval, k7, k8, k9, kA, Option.getD_some] at hm)) | (refine wl_box (by rfl) rfl (by first | exact idV_cells _ | exact labV_cells _ _ | exact rectV_cells _ _ _ _ | rfl) hm ?_; clear hm; intro b1 w1 hm) | (go_at_call 49; refine (h1 _ (hm.heap (by with_reducible first | exact at0 | exact at1 | exact at2 | exact at3))).mono ?_; rintro e w1 ⟨rfl, hx⟩; replace hm := hm.callAt (by with_reducible first | exact at0 | exact at1 | exact at2 | exact at3) hx; clear hx; simp only [k2, k3] at hm) | (with_reducible first | refine stBs ?_ | refine stMs ?_ | refine stAp ?_ | refine stCo ?_)); (try simp only [k4, k5, k6, Act.put, k1, k2, k3]))
  go_ret2
  exact ⟨rfl, hm⟩
theorem Number_go (b : Nat) (s r : ByteArray) (v e : Int) (h1 : Takes 48 #[.pointer (some ⟨b, 0, none⟩), .func (.func 49) #[.pointer (some ⟨b, 0, none⟩)] #[]] b s (.tuple #[.int .u64 v, .int .i64 e]) r) :
    Takes 24 #[.pointer (some ⟨b, 0, none⟩)] b s (.tuple #[.int .u64 v, .int .i64 e]) r := by
  intro w hw
  go_enter Try.func24, Try.ntmps24
  have hm := Mem.start hw
  go_wp2_with ((first | refine wpList_skip (by rfl) ?_ | (refine wlL (hm := hm) (hu := by first | exact undID | exact undLabel) (hi := by (try simp only [rowOf_size, idC_size]); first | exact sizeID | exact sizeLabel) (h := ?_); (try simp only [Act.put, k1, k2, k3]); (try simp only [← labV_eq, ← idV_eq])) | refine wlLC (hm := hm) (hu := by first | exact undStr | exact undByteI | exact undInt | exact undU64) (h := ?_) | (refine wlS (hm := hm) (hv := (by first | rfl | exact idV_eq _ | exact labV_eq _ _ | exact rectV_eq _ _ _ _)) (hi := by (try simp only [rowOf_size, idC_size]); first | exact sizeID | exact sizeLabel) (hs := by first | (simp only [rowOf_size, idC_size]; done) | rfl) (h1 := by first | rfl | exact idC_one _ | exact rowOf_one _ _ (fun _ _ => rfl) | (simp only [List.size_toArray, List.length_cons, List.all_toArray', List.all_cons, List.all_nil, Value.oneCell', Bool.and_true, Bool.and_self]; done) | (simp [Value.oneCell']; done)) (h := ?_); clear hm; intro w1 hm; (try simp only [rowOf_set, k1, k2, k3, Value.cells, Act.eval, k7, k8, k9, kA, Option.getD_some] at hm)) | (refine wlSC (hm := hm) (hi := by first | exact sizeStr | exact sizeByteI | exact sizeInt | exact sizeU64) (ho := by first | decide | (simp only [rowOf_size, idC_size]; omega) | (simp; done)) (h := ?_); clear hm; intro w1 hm; (try simp only [rowOf_set, k1, k2, k3, Value.cells, Act.eval, k7, k8, k9, kA, Option.getD_some] at hm)) | (refine wlA (hz := by first | exact zeroID | exact zeroLabel) (hm := hm) (h := ?_); clear hm; intro b1 w1 hm; (try simp only [rowOf_set, k1, k2, k3, Value.cells, Act.eval, k7, k8, k9, kA, Option.getD_some] at hm)) | (refine wl_box (by rfl) rfl (by first | exact idV_cells _ | exact labV_cells _ _ | exact rectV_cells _ _ _ _ | rfl) hm ?_; clear hm; intro b1 w1 hm) | (go_at_call 48; refine (h1 _ (hm.heap (by with_reducible first | exact at0 | exact at1 | exact at2 | exact at3))).mono ?_; rintro e w1 ⟨rfl, hx⟩; replace hm := hm.callAt (by with_reducible first | exact at0 | exact at1 | exact at2 | exact at3) hx; clear hx; simp only [k2, k3] at hm) | (with_reducible first | refine stBs ?_ | refine stMs ?_ | refine stAp ?_ | refine stCo ?_)); (try simp only [k4, k5, k6, Act.put, k1, k2, k3]))
  go_ret2
  exact ⟨rfl, hm⟩
/-- What Number reads of the bytes f, m of them: the error, or 0. -/
def numE (m : Nat) (f : Nat → Nat) : Nat := if m = 0 then 4 else if 8 < f 0 then 3 else if m < 1 + f 0 then 4 else if 0 < f 0 ∧ f 1 = 0 then 3 else 0
/-- The bytes behind the first k. -/
def dropF (k : Nat) (f : Nat → Nat) (j : Nat) : Nat := f (k + j)
/-- A string of m bytes f, and how a reader of it takes. -/
theorem takeB_ok (b m n : Nat) (f : Nat → Nat) (h : n ≤ m) : Takes 84 #[.pointer (some ⟨b, 0, none⟩), .int .i64 (n : Int)] b (bytesB m f) (.tuple #[.string (bytesB n f), .int .i64 0]) (bytesB (m - n) (dropF n f)) :=
  take_ok b _ _ _ m n (bytesB_size m f) h (bytesB_take m n f h) (by rw [bytesB_size]; exact bytesB_drop m n f h)
theorem number_any (b m : Nat) (f : Nat → Nat) (hf : ∀ j, f j < 256) : ∃ (v : Nat) (r : ByteArray), Takes 49 #[.pointer (some ⟨b, 0, none⟩)] b (bytesB m f) (.tuple #[.int .u64 (v : Int), .int .i64 ((numE m f : Nat) : Int)]) r ∧
    (numE m f = 0 → v = valB (dropF 1 f) (f 0) ∧ r = bytesB (m - 1 - f 0) (dropF (1 + f 0) f)) := by
  unfold numE
  by_cases h0 : m = 0
  · rw [if_pos h0]
    exact ⟨0, _, number_err1 b _ _ _ (take_more b _ m 1 (bytesB_size m f) (by omega)), fun h => by omega⟩
  · rw [if_neg h0]
    have k1 := takeB_ok b m 1 f (by omega)
    have hI0 : ∀ w, (Instr.index 9 (.string (bytesB 1 f)) (.int .i64 0)).run Try.prog w = .ok (.int .u8 ((f 0 : Nat) : Int)) w := run_indexS (k := 0) (bytesB_get (show 0 < 1 by omega)) (hf 0)
    by_cases h8 : 8 < f 0
    · rw [if_pos h8]
      exact ⟨0, _, number_form1 b _ _ _ (f 0) h8 hI0 k1, fun h => by omega⟩
    · rw [if_neg h8]
      by_cases hm : m < 1 + f 0
      · rw [if_pos hm]
        exact ⟨0, _, number_err2 b _ _ _ _ _ (f 0) h8 hI0 k1 (take_more b _ (m - 1) (f 0) (bytesB_size _ _) (by omega)), fun h => by omega⟩
      · rw [if_neg hm]
        have k2 := takeB_ok b (m - 1) (f 0) (dropF 1 f) (by omega)
        have hg := number_go b _ _ _ _ _ (f 0) (dropF 1 f) (fun k => hf _) h8 (bytesB_size _ _) _ rfl hI0 (fun k hk => run_indexS (bytesB_get hk) (hf _)) k1 k2
        have e1 : dropF 1 f 0 = f 1 := rfl
        have e2 : bytesB (m - 1 - f 0) (dropF (f 0) (dropF 1 f)) = bytesB (m - 1 - f 0) (dropF (1 + f 0) f) := bytesB_congr fun j _ => by unfold dropF; rw [Nat.add_assoc]
        by_cases hb : 0 < f 0 ∧ f 1 = 0
        · rw [if_pos hb]
          rw [e1, hb.2, decide_eq_true hb.1, if_pos (by decide)] at hg
          exact ⟨0, _, hg, fun h => by omega⟩
        · rw [if_neg hb]
          rw [if_neg (by rw [e1]; simp; omega), e2] at hg
          exact ⟨_, _, hg, fun _ => ⟨rfl, rfl⟩⟩
/-- A reader's Number. -/
theorem Number_ok (b m : Nat) (f : Nat → Nat) (hf : ∀ j, f j < 256) (h : numE m f = 0) : Takes 24 #[.pointer (some ⟨b, 0, none⟩)] b (bytesB m f) (.tuple #[.int .u64 ((valB (dropF 1 f) (f 0) : Nat) : Int), .int .i64 0]) (bytesB (m - 1 - f 0) (dropF (1 + f 0) f)) := by
  obtain ⟨v, r, h1, h2⟩ := number_any b m f hf
  obtain ⟨rfl, rfl⟩ := h2 h
  rw [h] at h1
  exact Number_go b _ _ _ _ (readU_ok b _ _ _ h1)
theorem Number_err (b m : Nat) (f : Nat → Nat) (hf : ∀ j, f j < 256) (h : numE m f ≠ 0) : Takes 24 #[.pointer (some ⟨b, 0, none⟩)] b (bytesB m f) (.tuple #[.int .u64 0, .int .i64 ((numE m f : Nat) : Int)]) (bytesB m f) := by
  obtain ⟨v, r, h1, _⟩ := number_any b m f hf
  exact Number_go b _ _ _ _ (readU_err b _ _ _ _ (by omega) h1)
end Go.Proofs.Ytijkmbebfodhdaa
