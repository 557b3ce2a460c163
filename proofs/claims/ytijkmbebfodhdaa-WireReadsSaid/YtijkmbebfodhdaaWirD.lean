/-
  Wire: a reader: what is left, taken, a number.
-/
import Derived.Test.YtijkmbebfodhdaaWirC
namespace Go.Proofs.Ytijkmbebfodhdaa
open Go.RowKit
set_option linter.unusedSimpArgs false
set_option linter.unusedVariables false
set_option maxHeartbeats 1000000
set_option maxRecDepth 20000

/-- Behind a callee that owned one block of ours, wherever it stands in the list. -/
theorem Mem.callAt {w0 w w' : World} {own : List Nat} {L : List (Nat × Obj)} {i b : Nat} {o o' : Obj} (h : Mem w0 own L w) (hi : L[i]? = some (b, o)) (hx : Mem w [b] [(b, o')] w') : Mem w0 own (L.set i (b, o')) w' := by
  have hil : i < L.length := (List.getElem?_eq_some_iff.1 hi).1
  have hmem : (b, o) ∈ L := List.mem_of_getElem? hi
  have hfst : ∀ j p, (L.set i (b, o'))[j]? = some p → ∃ q, L[j]? = some q ∧ q.1 = p.1 ∧ (j ≠ i → q = p) := fun j p hj => by
    by_cases hji : j = i
    · subst hji
      rw [List.getElem?_set_self hil] at hj
      exact ⟨_, hi, by rw [← Option.some.inj hj], fun h => (h rfl).elim⟩
    · rw [List.getElem?_set_ne (fun e => hji e.symm)] at hj
      exact ⟨p, hj, rfl, fun _ => rfl⟩
  refine ⟨hx.os.trans h.os, hx.tape.trans h.tape, hx.output.trans h.output, Nat.le_trans h.size hx.size, fun k hk hn => ?_, fun p hp => ?_, fun p hp => ?_, fun j k p q hj hk e => ?_⟩
  · have hkb : k ∉ [b] := fun hq => by
      rw [List.mem_singleton] at hq
      subst hq
      rcases h.may _ hmem with hm | hm
      · have : w0.heap.size ≤ k := hm; omega
      · exact hn hm
    rw [hx.old k (Nat.lt_of_lt_of_le hk h.size) hkb]
    exact h.old k hk hn
  · obtain ⟨j, hj⟩ := List.mem_iff_getElem?.1 hp
    by_cases hji : j = i
    · subst hji
      rw [List.getElem?_set_self hil] at hj
      rw [← Option.some.inj hj]
      exact hx.has _ (List.mem_singleton.2 rfl)
    · rw [List.getElem?_set_ne (fun e => hji e.symm)] at hj
      have hpL := List.mem_of_getElem? hj
      have hne : p.1 ∉ [b] := fun hq => by
        rw [List.mem_singleton] at hq
        exact hji (h.apart j i _ _ hj hi hq)
      rw [hx.old p.1 (h.lt hpL) hne]
      exact h.has p hpL
  · obtain ⟨j, hj⟩ := List.mem_iff_getElem?.1 hp
    obtain ⟨q, hq, e, _⟩ := hfst j p hj
    rw [← e]
    exact h.may q (List.mem_of_getElem? hq)
  · obtain ⟨p', hp', e1, _⟩ := hfst j p hj
    obtain ⟨q', hq', e2, _⟩ := hfst k q hk
    exact h.apart j k p' q' hp' hq' (by rw [e1, e2, e])

theorem undStr : Try.prog.underlying 9 = some .string := by kernel_rfl
theorem sizeStr : (Try.prog.info? 9).map (·.size) = some 1 := by kernel_rfl
theorem built_rd (s : ByteArray) : Try.prog.built 76 [(0, .string s)] = some #[.string s] := by kernel_rfl
/-- A call on a reader: it had s, and has r now. -/
def Takes (f : FuncId) (args : Array Value) (b : Nat) (s : ByteArray) (v : Value) (r : ByteArray) : Prop :=
  ∀ w, w.heap[b]? = some (.cells #[.string s] 76 (0, 0)) → Calls Try.prog f args w fun e w' => e = .returned v ∧ Mem w [b] [(b, .cells #[.string r] 76 (0, 0))] w'
attribute [local irreducible] wpQuiet wpList wpAnyH Calls

theorem new_c (s : ByteArray) (w : World) : Calls Try.prog 23 #[.string s] w fun e w' => ∃ b, e = .returned (.pointer (some ⟨b, 0, none⟩)) ∧ Mem w [] [(b, .cells #[.string s] 76 (0, 0))] w' := by
  go_enter Try.func23, Try.ntmps23
  have hm := Mem.refl w []
  go_wp2_with ((first | refine wpList_skip (by rfl) ?_ | (refine wlL (hm := hm) (hu := by first | exact undID | exact undLabel) (hi := by (try simp only [rowOf_size, idC_size]); first | exact sizeID | exact sizeLabel) (h := ?_); (try simp only [Act.put, k1, k2, k3]); (try simp only [← labV_eq, ← idV_eq])) | refine wlLC (hm := hm) (hu := by first | exact undStr | exact undByteI | exact undInt | exact undU64) (h := ?_) | (refine wlS (hm := hm) (hv := (by first | rfl | exact idV_eq _ | exact labV_eq _ _ | exact rectV_eq _ _ _ _)) (hi := by (try simp only [rowOf_size, idC_size]); first | exact sizeID | exact sizeLabel) (hs := by first | (simp only [rowOf_size, idC_size]; done) | rfl) (h1 := by first | rfl | exact idC_one _ | exact rowOf_one _ _ (fun _ _ => rfl) | (simp only [List.size_toArray, List.length_cons, List.all_toArray', List.all_cons, List.all_nil, Value.oneCell', Bool.and_true, Bool.and_self]; done) | (simp [Value.oneCell']; done)) (h := ?_); clear hm; intro w1 hm; (try simp only [rowOf_set, k1, k2, k3, Value.cells, Act.eval, k7, k8, k9, kA, Option.getD_some] at hm)) | (refine wlSC (hm := hm) (hi := by first | exact sizeStr | exact sizeByteI | exact sizeInt | exact sizeU64) (ho := by first | decide | (simp only [rowOf_size, idC_size]; omega) | (simp; done)) (h := ?_); clear hm; intro w1 hm; (try simp only [rowOf_set, k1, k2, k3, Value.cells, Act.eval, k7, k8, k9, kA, Option.getD_some] at hm)) | (refine wlA (hz := by first | exact zeroID | exact zeroLabel) (hm := hm) (h := ?_); clear hm; intro b1 w1 hm; (try simp only [rowOf_set, k1, k2, k3, Value.cells, Act.eval, k7, k8, k9, kA, Option.getD_some] at hm)) | (refine wl_box (by rfl) rfl (by first | exact idV_cells _ | exact labV_cells _ _ | exact rectV_cells _ _ _ _ | rfl) hm ?_; clear hm; intro b1 w1 hm) | (refine wl_build (by rfl) (built_rd _) rfl ?_; (try simp only [Act.put, k1, k2, k3]); (try simp only [← labV_eq, ← idV_eq])) | (with_reducible first | refine stBs ?_ | refine stMs ?_ | refine stAp ?_ | refine stCo ?_)); (try simp only [k4, k5, k6, Act.put, k1, k2, k3]))
  go_ret
  exact ⟨b1, rfl, hm⟩
theorem left_nil : Says 27 #[.pointer none] (.int .i64 0) := by
  intro w
  go_enter Try.func27, Try.ntmps27
  have hm := Mem.refl w []
  go_wp2_with ((first | refine wpList_skip (by rfl) ?_ | (refine wlL (hm := hm) (hu := by first | exact undID | exact undLabel) (hi := by (try simp only [rowOf_size, idC_size]); first | exact sizeID | exact sizeLabel) (h := ?_); (try simp only [Act.put, k1, k2, k3]); (try simp only [← labV_eq, ← idV_eq])) | refine wlLC (hm := hm) (hu := by first | exact undStr | exact undByteI | exact undInt | exact undU64) (h := ?_) | (refine wlS (hm := hm) (hv := (by first | rfl | exact idV_eq _ | exact labV_eq _ _ | exact rectV_eq _ _ _ _)) (hi := by (try simp only [rowOf_size, idC_size]); first | exact sizeID | exact sizeLabel) (hs := by first | (simp only [rowOf_size, idC_size]; done) | rfl) (h1 := by first | rfl | exact idC_one _ | exact rowOf_one _ _ (fun _ _ => rfl) | (simp only [List.size_toArray, List.length_cons, List.all_toArray', List.all_cons, List.all_nil, Value.oneCell', Bool.and_true, Bool.and_self]; done) | (simp [Value.oneCell']; done)) (h := ?_); clear hm; intro w1 hm; (try simp only [rowOf_set, k1, k2, k3, Value.cells, Act.eval, k7, k8, k9, kA, Option.getD_some] at hm)) | (refine wlSC (hm := hm) (hi := by first | exact sizeStr | exact sizeByteI | exact sizeInt | exact sizeU64) (ho := by first | decide | (simp only [rowOf_size, idC_size]; omega) | (simp; done)) (h := ?_); clear hm; intro w1 hm; (try simp only [rowOf_set, k1, k2, k3, Value.cells, Act.eval, k7, k8, k9, kA, Option.getD_some] at hm)) | (refine wlA (hz := by first | exact zeroID | exact zeroLabel) (hm := hm) (h := ?_); clear hm; intro b1 w1 hm; (try simp only [rowOf_set, k1, k2, k3, Value.cells, Act.eval, k7, k8, k9, kA, Option.getD_some] at hm)) | (refine wl_box (by rfl) rfl (by first | exact idV_cells _ | exact labV_cells _ _ | exact rectV_cells _ _ _ _ | rfl) hm ?_; clear hm; intro b1 w1 hm) | (refine wl_build (by rfl) (built_rd _) rfl ?_; (try simp only [Act.put, k1, k2, k3]); (try simp only [← labV_eq, ← idV_eq])) | (with_reducible first | refine stBs ?_ | refine stMs ?_ | refine stAp ?_ | refine stCo ?_)); (try simp only [k4, k5, k6, Act.put, k1, k2, k3]))
  go_ret
  exact ⟨rfl, hm.ext⟩
theorem left_c (b : Nat) (s : ByteArray) (n : Nat) (hs : s.size = n) : Takes 27 #[.pointer (some ⟨b, 0, none⟩)] b s (.int .i64 (n : Int)) s := by
  intro w h
  go_enter Try.func27, Try.ntmps27
  have hm := Mem.start h
  go_wp2_with ((first | refine wpList_skip (by rfl) ?_ | (refine wlL (hm := hm) (hu := by first | exact undID | exact undLabel) (hi := by (try simp only [rowOf_size, idC_size]); first | exact sizeID | exact sizeLabel) (h := ?_); (try simp only [Act.put, k1, k2, k3]); (try simp only [← labV_eq, ← idV_eq])) | refine wlLC (hm := hm) (hu := by first | exact undStr | exact undByteI | exact undInt | exact undU64) (h := ?_) | (refine wlS (hm := hm) (hv := (by first | rfl | exact idV_eq _ | exact labV_eq _ _ | exact rectV_eq _ _ _ _)) (hi := by (try simp only [rowOf_size, idC_size]); first | exact sizeID | exact sizeLabel) (hs := by first | (simp only [rowOf_size, idC_size]; done) | rfl) (h1 := by first | rfl | exact idC_one _ | exact rowOf_one _ _ (fun _ _ => rfl) | (simp only [List.size_toArray, List.length_cons, List.all_toArray', List.all_cons, List.all_nil, Value.oneCell', Bool.and_true, Bool.and_self]; done) | (simp [Value.oneCell']; done)) (h := ?_); clear hm; intro w1 hm; (try simp only [rowOf_set, k1, k2, k3, Value.cells, Act.eval, k7, k8, k9, kA, Option.getD_some] at hm)) | (refine wlSC (hm := hm) (hi := by first | exact sizeStr | exact sizeByteI | exact sizeInt | exact sizeU64) (ho := by first | decide | (simp only [rowOf_size, idC_size]; omega) | (simp; done)) (h := ?_); clear hm; intro w1 hm; (try simp only [rowOf_set, k1, k2, k3, Value.cells, Act.eval, k7, k8, k9, kA, Option.getD_some] at hm)) | (refine wlA (hz := by first | exact zeroID | exact zeroLabel) (hm := hm) (h := ?_); clear hm; intro b1 w1 hm; (try simp only [rowOf_set, k1, k2, k3, Value.cells, Act.eval, k7, k8, k9, kA, Option.getD_some] at hm)) | (refine wl_box (by rfl) rfl (by first | exact idV_cells _ | exact labV_cells _ _ | exact rectV_cells _ _ _ _ | rfl) hm ?_; clear hm; intro b1 w1 hm) | (refine wl_build (by rfl) (built_rd _) rfl ?_; (try simp only [Act.put, k1, k2, k3]); (try simp only [← labV_eq, ← idV_eq])) | (with_reducible first | refine stBs ?_ | refine stMs ?_ | refine stAp ?_ | refine stCo ?_)); (try simp only [k4, k5, k6, Act.put, k1, k2, k3]))
  go_ret
  exact ⟨rfl, hm⟩
theorem take_more (b : Nat) (s : ByteArray) (m n : Nat) (hs : s.size = m) (h : m < n) : Takes 84 #[.pointer (some ⟨b, 0, none⟩), .int .i64 (n : Int)] b s (.tuple #[.string { data := #[] }, .int .i64 4]) s := by
  intro w hw
  go_enter Try.func84, Try.ntmps84
  have hm := Mem.start hw
  go_wp2_with ((first | refine wpList_skip (by rfl) ?_ | (refine wlL (hm := hm) (hu := by first | exact undID | exact undLabel) (hi := by (try simp only [rowOf_size, idC_size]); first | exact sizeID | exact sizeLabel) (h := ?_); (try simp only [Act.put, k1, k2, k3]); (try simp only [← labV_eq, ← idV_eq])) | refine wlLC (hm := hm) (hu := by first | exact undStr | exact undByteI | exact undInt | exact undU64) (h := ?_) | (refine wlS (hm := hm) (hv := (by first | rfl | exact idV_eq _ | exact labV_eq _ _ | exact rectV_eq _ _ _ _)) (hi := by (try simp only [rowOf_size, idC_size]); first | exact sizeID | exact sizeLabel) (hs := by first | (simp only [rowOf_size, idC_size]; done) | rfl) (h1 := by first | rfl | exact idC_one _ | exact rowOf_one _ _ (fun _ _ => rfl) | (simp only [List.size_toArray, List.length_cons, List.all_toArray', List.all_cons, List.all_nil, Value.oneCell', Bool.and_true, Bool.and_self]; done) | (simp [Value.oneCell']; done)) (h := ?_); clear hm; intro w1 hm; (try simp only [rowOf_set, k1, k2, k3, Value.cells, Act.eval, k7, k8, k9, kA, Option.getD_some] at hm)) | (refine wlSC (hm := hm) (hi := by first | exact sizeStr | exact sizeByteI | exact sizeInt | exact sizeU64) (ho := by first | decide | (simp only [rowOf_size, idC_size]; omega) | (simp; done)) (h := ?_); clear hm; intro w1 hm; (try simp only [rowOf_set, k1, k2, k3, Value.cells, Act.eval, k7, k8, k9, kA, Option.getD_some] at hm)) | (refine wlA (hz := by first | exact zeroID | exact zeroLabel) (hm := hm) (h := ?_); clear hm; intro b1 w1 hm; (try simp only [rowOf_set, k1, k2, k3, Value.cells, Act.eval, k7, k8, k9, kA, Option.getD_some] at hm)) | (refine wl_box (by rfl) rfl (by first | exact idV_cells _ | exact labV_cells _ _ | exact rectV_cells _ _ _ _ | rfl) hm ?_; clear hm; intro b1 w1 hm) | (refine wl_build (by rfl) (built_rd _) rfl ?_; (try simp only [Act.put, k1, k2, k3]); (try simp only [← labV_eq, ← idV_eq])) | (with_reducible first | refine stBs ?_ | refine stMs ?_ | refine stAp ?_ | refine stCo ?_)); (try simp only [k4, k5, k6, Act.put, k1, k2, k3]))
  go_ret2
  exact ⟨rfl, hm⟩
theorem take_ok (b : Nat) (s t r : ByteArray) (m n : Nat) (hs : s.size = m) (h : n ≤ m) (ht : s.extract 0 n = t) (hr : s.extract n s.size = r) : Takes 84 #[.pointer (some ⟨b, 0, none⟩), .int .i64 (n : Int)] b s (.tuple #[.string t, .int .i64 0]) r := by
  intro w hw
  have c1 := slice_to (s := s) (t := t) (n := n) (by omega) ht
  have c2 := slice_from (s := s) (t := r) (n := n) (by omega) hr
  have hnm : ¬ m < n := by omega
  clear ht hr h
  go_enter Try.func84, Try.ntmps84
  have hm := Mem.start hw
  go_wp2_with ((first | refine wpList_skip (by rfl) ?_ | (refine wlL (hm := hm) (hu := by first | exact undID | exact undLabel) (hi := by (try simp only [rowOf_size, idC_size]); first | exact sizeID | exact sizeLabel) (h := ?_); (try simp only [Act.put, k1, k2, k3]); (try simp only [← labV_eq, ← idV_eq])) | refine wlLC (hm := hm) (hu := by first | exact undStr | exact undByteI | exact undInt | exact undU64) (h := ?_) | (refine wlS (hm := hm) (hv := (by first | rfl | exact idV_eq _ | exact labV_eq _ _ | exact rectV_eq _ _ _ _)) (hi := by (try simp only [rowOf_size, idC_size]); first | exact sizeID | exact sizeLabel) (hs := by first | (simp only [rowOf_size, idC_size]; done) | rfl) (h1 := by first | rfl | exact idC_one _ | exact rowOf_one _ _ (fun _ _ => rfl) | (simp only [List.size_toArray, List.length_cons, List.all_toArray', List.all_cons, List.all_nil, Value.oneCell', Bool.and_true, Bool.and_self]; done) | (simp [Value.oneCell']; done)) (h := ?_); clear hm; intro w1 hm; (try simp only [rowOf_set, k1, k2, k3, Value.cells, Act.eval, k7, k8, k9, kA, Option.getD_some] at hm)) | (refine wlSC (hm := hm) (hi := by first | exact sizeStr | exact sizeByteI | exact sizeInt | exact sizeU64) (ho := by first | decide | (simp only [rowOf_size, idC_size]; omega) | (simp; done)) (h := ?_); clear hm; intro w1 hm; (try simp only [rowOf_set, k1, k2, k3, Value.cells, Act.eval, k7, k8, k9, kA, Option.getD_some] at hm)) | (refine wlA (hz := by first | exact zeroID | exact zeroLabel) (hm := hm) (h := ?_); clear hm; intro b1 w1 hm; (try simp only [rowOf_set, k1, k2, k3, Value.cells, Act.eval, k7, k8, k9, kA, Option.getD_some] at hm)) | (refine wl_box (by rfl) rfl (by first | exact idV_cells _ | exact labV_cells _ _ | exact rectV_cells _ _ _ _ | rfl) hm ?_; clear hm; intro b1 w1 hm) | (refine wl_build (by rfl) (built_rd _) rfl ?_; (try simp only [Act.put, k1, k2, k3]); (try simp only [← labV_eq, ← idV_eq])) | (with_reducible first | refine stBs ?_ | refine stMs ?_ | refine stAp ?_ | refine stCo ?_)); (try simp only [k4, k5, k6, Act.put, k1, k2, k3]))
  go_ret2
  exact ⟨rfl, hm⟩
end Go.Proofs.Ytijkmbebfodhdaa
