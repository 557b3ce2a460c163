/-
  Wire: the document's rows.
-/
import Derived.Test.YtijkmbebfodhdaaWirF
namespace Go.Proofs.Ytijkmbebfodhdaa
open Go.RowKit
set_option linter.unusedSimpArgs false
set_option linter.unusedVariables false
set_option maxHeartbeats 1000000
set_option maxRecDepth 20000
attribute [local irreducible] wpQuiet wpList wpAnyH Calls

theorem built_len5 (x : Int) : Try.prog.built 26 [(0, .int .i64 x)] = some #[.int .i64 x, .int .u64 0] := by kernel_rfl
theorem bytes2 (x y : Nat) (f : Nat → Nat) (h0 : f 0 = x) (h1 : f 1 = y) : bytesB 2 f = { data := #[UInt8.ofNat x, UInt8.ofNat y] } := by
  unfold bytesB
  rw [show List.range 2 = [0, 1] from rfl]
  simp [h0, h1]
theorem wired_text : Says 13 #[.string { data := #[] }, .string { data := #[97, 98] }] (.tuple #[.string { data := #[1, 2, 97, 98] }, .int .i64 0]) := by
  have h := putText_c { data := #[] } { data := #[97, 98] } (by decide) (by decide)
  have e : ({ data := #[] } ++ (bytesB (nB ({ data := #[97, 98] } : ByteArray).size + 1) (numF ({ data := #[97, 98] } : ByteArray).size) ++ { data := #[97, 98] }) : ByteArray) = { data := #[1, 2, 97, 98] } := by unfold bytesB; decide +kernel
  rw [e] at h
  exact h
theorem wired_label : Says 14 #[.string { data := #[] }, .agg #[.int .i64 3, .int .u64 11529215046068469760]] (.tuple #[.string { data := #[3, 160] }, .int .i64 0]) := by
  have hi : Says 33 #[labV ((3 : Nat) : Int) 11529215046068469760] (.bool true) := is_true 3 11529215046068469760 (by decide) (by decide +kernel)
  have h := putLabel_c { data := #[] } (by decide) 3 11529215046068469760 (by decide) hi
  have e : ({ data := #[] } ++ bytesB ((3 + 7) / 8 + 1) (labF 3 11529215046068469760) : ByteArray) = { data := #[3, 160] } := by unfold bytesB; decide +kernel
  rw [e, labV_eq] at h
  exact h
theorem wired_label2 : Says 14 #[.string { data := #[] }, .agg #[.int .i64 (-1), .int .u64 0]] (.tuple #[.string { data := #[] }, .int .i64 1]) := by
  have hi : Says 33 #[labV (-1) 0] (.bool false) := is_false (-1) 0 (by decide) (by decide +kernel)
  have h := putLabel_no { data := #[] } (-1) 0 hi
  rw [labV_eq] at h
  exact h
theorem wired_n1 : Says 19 #[.string { data := #[] }, .int .u64 0] (.string { data := #[0] }) := by
  have h := putNumber_c { data := #[] } 0 (by decide) (by decide)
  have e : ({ data := #[] } ++ bytesB (nB 0 + 1) (numF 0) : ByteArray) = { data := #[0] } := by unfold bytesB; decide +kernel
  rw [e] at h
  exact h
theorem wired_n2 : Says 19 #[.string { data := #[0] }, .int .u64 5] (.string { data := #[0, 1, 5] }) := by
  have h := putNumber_c { data := #[0] } 5 (by decide) (by decide)
  have e : ({ data := #[0] } ++ bytesB (nB 5 + 1) (numF 5) : ByteArray) = { data := #[0, 1, 5] } := by unfold bytesB; decide +kernel
  rw [e] at h
  exact h
theorem wired_n3 : Says 19 #[.string { data := #[0, 1, 5] }, .int .u64 258] (.string { data := #[0, 1, 5, 2, 1, 2] }) := by
  have h := putNumber_c { data := #[0, 1, 5] } 258 (by decide) (by decide)
  have e : ({ data := #[0, 1, 5] } ++ bytesB (nB 258 + 1) (numF 258) : ByteArray) = { data := #[0, 1, 5, 2, 1, 2] } := by unfold bytesB; decide +kernel
  rw [e] at h
  exact h
theorem wired_rd (b : Nat) : Takes 24 #[.pointer (some ⟨b, 0, none⟩)] b { data := #[1, 5] } (.tuple #[.int .u64 5, .int .i64 0]) { data := #[] } := by
  have h := Number_ok b 2 (fun j => if j = 0 then 1 else 5) (fun j => by show (if j = 0 then 1 else 5) < 256; split <;> decide) (by decide)
  have e1 : bytesB 2 (fun j => if j = 0 then 1 else 5) = { data := #[1, 5] } := by unfold bytesB; decide +kernel
  have e2 : valB (dropF 1 fun j => if j = 0 then 1 else 5) 1 = 5 := by decide
  have e3 : bytesB (2 - 1 - 1) (dropF (1 + 1) fun j => if j = 0 then 1 else 5) = { data := #[] } := by unfold bytesB; rfl
  have h' : Takes 24 #[.pointer (some ⟨b, 0, none⟩)] b (bytesB 2 (fun j => if j = 0 then 1 else 5)) (.tuple #[.int .u64 ((valB (dropF 1 fun j => if j = 0 then 1 else 5) 1 : Nat) : Int), .int .i64 0]) (bytesB (2 - 1 - 1) (dropF (1 + 1) fun j => if j = 0 then 1 else 5)) := h
  rw [e1, e2, e3] at h'
  exact h'
theorem wired_go (t1 : Says 13 #[.string { data := #[] }, .string { data := #[97, 98] }] (.tuple #[.string { data := #[1, 2, 97, 98] }, .int .i64 0]))
    (l1 : Says 14 #[.string { data := #[] }, .agg #[.int .i64 3, .int .u64 11529215046068469760]] (.tuple #[.string { data := #[3, 160] }, .int .i64 0]))
    (l2 : Says 14 #[.string { data := #[] }, .agg #[.int .i64 (-1), .int .u64 0]] (.tuple #[.string { data := #[] }, .int .i64 1]))
    (p1 : Says 19 #[.string { data := #[] }, .int .u64 0] (.string { data := #[0] })) (p2 : Says 19 #[.string { data := #[0] }, .int .u64 5] (.string { data := #[0, 1, 5] }))
    (p3 : Says 19 #[.string { data := #[0, 1, 5] }, .int .u64 258] (.string { data := #[0, 1, 5, 2, 1, 2] }))
    (n1 : ∀ b, Takes 24 #[.pointer (some ⟨b, 0, none⟩)] b { data := #[1, 5] } (.tuple #[.int .u64 5, .int .i64 0]) { data := #[] }) :
    Says 18 #[] (.bool true) := by
  intro w
  go_enter Try.func18, Try.ntmps18
  have hm := Mem.refl w []
  go_wp2_with ((first | refine wpList_skip (by rfl) ?_ | (refine wlL (hm := hm) (hu := by first | exact undID | exact undLabel) (hi := by (try simp only [rowOf_size, idC_size]); first | exact sizeID | exact sizeLabel) (h := ?_); (try simp only [Act.put, k1, k2, k3]); (try simp only [← labV_eq, ← idV_eq])) | refine wlLC (hm := hm) (hu := by first | exact undStr | exact undByteI | exact undInt | exact undU64) (h := ?_) | (refine wlS (hm := hm) (hv := (by first | rfl | exact idV_eq _ | exact labV_eq _ _ | exact rectV_eq _ _ _ _)) (hi := by (try simp only [rowOf_size, idC_size]); first | exact sizeID | exact sizeLabel) (hs := by first | (simp only [rowOf_size, idC_size]; done) | rfl) (h1 := by first | rfl | exact idC_one _ | exact rowOf_one _ _ (fun _ _ => rfl) | (simp only [List.size_toArray, List.length_cons, List.all_toArray', List.all_cons, List.all_nil, Value.oneCell', Bool.and_true, Bool.and_self]; done) | (simp [Value.oneCell']; done)) (h := ?_); clear hm; intro w1 hm; (try simp only [rowOf_set, k1, k2, k3, Value.cells, Act.eval, k7, k8, k9, kA, Option.getD_some] at hm)) | (refine wlSC (hm := hm) (hi := by first | exact sizeStr | exact sizeByteI | exact sizeInt | exact sizeU64) (ho := by first | decide | (simp only [rowOf_size, idC_size]; omega) | (simp; done)) (h := ?_); clear hm; intro w1 hm; (try simp only [rowOf_set, k1, k2, k3, Value.cells, Act.eval, k7, k8, k9, kA, Option.getD_some] at hm)) | (refine wlA (hz := by first | exact zeroID | exact zeroLabel) (hm := hm) (h := ?_); clear hm; intro b1 w1 hm; (try simp only [rowOf_set, k1, k2, k3, Value.cells, Act.eval, k7, k8, k9, kA, Option.getD_some] at hm)) | (refine wl_box (by rfl) rfl (by first | exact idV_cells _ | exact labV_cells _ _ | exact rectV_cells _ _ _ _ | rfl) hm ?_; clear hm; intro b1 w1 hm) | (refine wl_build (by rfl) (built_lab _ _) rfl ?_; (try simp only [Act.put, k1, k2, k3]); (try simp only [← labV_eq, ← idV_eq])) | (refine wl_build (by rfl) (built_len5 _) rfl ?_; (try simp only [Act.put, k1, k2, k3]); (try simp only [← labV_eq, ← idV_eq])) | (go_at_call 13; refine (t1 _).mono ?_; rintro e w1 ⟨rfl, hx⟩; replace hm := hm.call hx; clear hx) | (go_at_call 14; refine (l1 _).mono ?_; rintro e w1 ⟨rfl, hx⟩; replace hm := hm.call hx; clear hx) | (go_at_call 14; refine (l2 _).mono ?_; rintro e w1 ⟨rfl, hx⟩; replace hm := hm.call hx; clear hx) | (go_at_call 19; refine (p1 _).mono ?_; rintro e w1 ⟨rfl, hx⟩; replace hm := hm.call hx; clear hx) | (go_at_call 19; refine (p2 _).mono ?_; rintro e w1 ⟨rfl, hx⟩; replace hm := hm.call hx; clear hx) | (go_at_call 19; refine (p3 _).mono ?_; rintro e w1 ⟨rfl, hx⟩; replace hm := hm.call hx; clear hx) | (go_at_call 24; refine ((n1 _) _ (hm.heap (by with_reducible first | exact at0 | exact at1 | exact at2 | exact at3))).mono ?_; rintro e w1 ⟨rfl, hx⟩; replace hm := hm.callAt (by with_reducible first | exact at0 | exact at1 | exact at2 | exact at3) hx; clear hx; simp only [k2, k3] at hm) | (go_at_call 27; refine ((left_c _ _ 0 rfl) _ (hm.heap (by with_reducible first | exact at0 | exact at1 | exact at2 | exact at3))).mono ?_; rintro e w1 ⟨rfl, hx⟩; replace hm := hm.callAt (by with_reducible first | exact at0 | exact at1 | exact at2 | exact at3) hx; clear hx; simp only [k2, k3] at hm) | (with_reducible first | refine stBs ?_ | refine stMs ?_ | refine stAp ?_ | refine stCo ?_)); (try simp only [k4, k5, k6, Act.put, k1, k2, k3]))
  refine (new_c _ _).mono ?_
  rintro e w2 ⟨b, rfl, hx⟩
  replace hm := Mem.callOwn (B := []) hm hx
  simp only [List.append_nil] at hm
  clear hx
  go_wp2_with ((first | refine wpList_skip (by rfl) ?_ | (refine wlL (hm := hm) (hu := by first | exact undID | exact undLabel) (hi := by (try simp only [rowOf_size, idC_size]); first | exact sizeID | exact sizeLabel) (h := ?_); (try simp only [Act.put, k1, k2, k3]); (try simp only [← labV_eq, ← idV_eq])) | refine wlLC (hm := hm) (hu := by first | exact undStr | exact undByteI | exact undInt | exact undU64) (h := ?_) | (refine wlS (hm := hm) (hv := (by first | rfl | exact idV_eq _ | exact labV_eq _ _ | exact rectV_eq _ _ _ _)) (hi := by (try simp only [rowOf_size, idC_size]); first | exact sizeID | exact sizeLabel) (hs := by first | (simp only [rowOf_size, idC_size]; done) | rfl) (h1 := by first | rfl | exact idC_one _ | exact rowOf_one _ _ (fun _ _ => rfl) | (simp only [List.size_toArray, List.length_cons, List.all_toArray', List.all_cons, List.all_nil, Value.oneCell', Bool.and_true, Bool.and_self]; done) | (simp [Value.oneCell']; done)) (h := ?_); clear hm; intro w1 hm; (try simp only [rowOf_set, k1, k2, k3, Value.cells, Act.eval, k7, k8, k9, kA, Option.getD_some] at hm)) | (refine wlSC (hm := hm) (hi := by first | exact sizeStr | exact sizeByteI | exact sizeInt | exact sizeU64) (ho := by first | decide | (simp only [rowOf_size, idC_size]; omega) | (simp; done)) (h := ?_); clear hm; intro w1 hm; (try simp only [rowOf_set, k1, k2, k3, Value.cells, Act.eval, k7, k8, k9, kA, Option.getD_some] at hm)) | (refine wlA (hz := by first | exact zeroID | exact zeroLabel) (hm := hm) (h := ?_); clear hm; intro b1 w1 hm; (try simp only [rowOf_set, k1, k2, k3, Value.cells, Act.eval, k7, k8, k9, kA, Option.getD_some] at hm)) | (refine wl_box (by rfl) rfl (by first | exact idV_cells _ | exact labV_cells _ _ | exact rectV_cells _ _ _ _ | rfl) hm ?_; clear hm; intro b1 w1 hm) | (refine wl_build (by rfl) (built_lab _ _) rfl ?_; (try simp only [Act.put, k1, k2, k3]); (try simp only [← labV_eq, ← idV_eq])) | (refine wl_build (by rfl) (built_len5 _) rfl ?_; (try simp only [Act.put, k1, k2, k3]); (try simp only [← labV_eq, ← idV_eq])) | (go_at_call 13; refine (t1 _).mono ?_; rintro e w1 ⟨rfl, hx⟩; replace hm := hm.call hx; clear hx) | (go_at_call 14; refine (l1 _).mono ?_; rintro e w1 ⟨rfl, hx⟩; replace hm := hm.call hx; clear hx) | (go_at_call 14; refine (l2 _).mono ?_; rintro e w1 ⟨rfl, hx⟩; replace hm := hm.call hx; clear hx) | (go_at_call 19; refine (p1 _).mono ?_; rintro e w1 ⟨rfl, hx⟩; replace hm := hm.call hx; clear hx) | (go_at_call 19; refine (p2 _).mono ?_; rintro e w1 ⟨rfl, hx⟩; replace hm := hm.call hx; clear hx) | (go_at_call 19; refine (p3 _).mono ?_; rintro e w1 ⟨rfl, hx⟩; replace hm := hm.call hx; clear hx) | (go_at_call 24; refine ((n1 _) _ (hm.heap (by with_reducible first | exact at0 | exact at1 | exact at2 | exact at3))).mono ?_; rintro e w1 ⟨rfl, hx⟩; replace hm := hm.callAt (by with_reducible first | exact at0 | exact at1 | exact at2 | exact at3) hx; clear hx; simp only [k2, k3] at hm) | (go_at_call 27; refine ((left_c _ _ 0 rfl) _ (hm.heap (by with_reducible first | exact at0 | exact at1 | exact at2 | exact at3))).mono ?_; rintro e w1 ⟨rfl, hx⟩; replace hm := hm.callAt (by with_reducible first | exact at0 | exact at1 | exact at2 | exact at3) hx; clear hx; simp only [k2, k3] at hm) | (with_reducible first | refine stBs ?_ | refine stMs ?_ | refine stAp ?_ | refine stCo ?_)); (try simp only [k4, k5, k6, Act.put, k1, k2, k3]))
  go_ret
  exact ⟨rfl, hm.ext⟩
theorem wired_c : Says 18 #[] (.bool true) := wired_go wired_text wired_label wired_label2 wired_n1 wired_n2 wired_n3 wired_rd
end Go.Proofs.Ytijkmbebfodhdaa
