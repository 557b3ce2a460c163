/- For every number v, text s, label l and number at the call WireCut(v, s, l, at) returns true and leaves its arguments as they were: bytes that are read are not read cut short, then they end ahead. No condition. -/
import Derived.Test.YtijkmbebfodhdaaWirW
import Derived.Test.YtijkmbebfodhdaaWirP
import Derived.Test.YtijkmbebfodhdaaOpenL
import Derived.Test.YtijkmbebfodhdaaOpenI
import Derived.Test.YtijkmbebfodhdaaRows
namespace Go.Proofs.Ytijkmbebfodhdaa.lawWCut
open Go.ChangeShapes Go.WideShapes Go.ChangeAt Go.RowKit
set_option linter.unusedSimpArgs false
set_option linter.unusedVariables false
set_option maxHeartbeats 4000000
set_option maxRecDepth 20000
attribute [local irreducible] wpQuiet wpList wpAnyH Calls

theorem walk_out (v : Int) (s : ByteArray) (len : Int) (k : Nat) (at' : Int) (h : 500 < s.size) (w : World) :
    Calls Try.prog 4 #[.int .u64 v, .string s, labV len k, .int .i64 at'] w fun e w' => e = .returned (.bool true) ∧ Ext w w' := by
  go_enter Try.func4, Try.ntmps4
  have hm := Mem.refl w []
  go_wp2_with ((first | refine wpList_skip (by rfl) ?_ | (refine wlL (hm := hm) (hu := by first | exact undID | exact undLabel) (hi := by (try simp only [rowOf_size, idC_size]); first | exact sizeID | exact sizeLabel) (h := ?_); (try simp only [Act.put, k1, k2, k3]); (try simp only [← labV_eq, ← idV_eq])) | refine wlLC (hm := hm) (hu := by first | exact undInt | exact undU64) (h := ?_) | (refine wlS (hm := hm) (hv := (by first | rfl | exact idV_eq _ | exact labV_eq _ _ | exact rectV_eq _ _ _ _)) (hi := by (try simp only [rowOf_size, idC_size]); first | exact sizeID | exact sizeLabel) (hs := by first | (simp only [rowOf_size, idC_size]; done) | rfl) (h1 := by first | rfl | exact idC_one _ | exact rowOf_one _ _ (fun _ _ => rfl) | (simp only [List.size_toArray, List.length_cons, List.all_toArray', List.all_cons, List.all_nil, Value.oneCell', Bool.and_true, Bool.and_self]; done) | (simp [Value.oneCell']; done)) (h := ?_); clear hm; intro w1 hm; (try simp only [rowOf_set, k1, k2, k3, Value.cells, Act.eval, k7, k8, k9, kA, Option.getD_some] at hm)) | (refine wlSC (hm := hm) (hi := by first | exact sizeInt | exact sizeU64) (ho := by first | decide | (simp only [rowOf_size, idC_size]; omega) | (simp; done)) (h := ?_); clear hm; intro w1 hm; (try simp only [rowOf_set, k1, k2, k3, Value.cells, Act.eval, k7, k8, k9, kA, Option.getD_some] at hm)) | (refine wlA (hz := by first | exact zeroID | exact zeroLabel) (hm := hm) (h := ?_); clear hm; intro b1 w1 hm; (try simp only [rowOf_set, k1, k2, k3, Value.cells, Act.eval, k7, k8, k9, kA, Option.getD_some] at hm)) | (refine wl_box (by rfl) rfl (by first | exact idV_cells _ | exact labV_cells _ _ | exact rectV_cells _ _ _ _ | rfl) hm ?_; clear hm; intro b1 w1 hm) | (go_at_call 18; refine (wired_c _).mono ?_; rintro e w1 ⟨rfl, hx⟩; replace hm := hm.call hx; clear hx) | (with_reducible first | refine stBs ?_ | refine stMs ?_ | refine stAp ?_ | refine stCo ?_)); (try simp only [k4, k5, k6, Act.put, k1, k2, k3]))
  go_ret
  exact ⟨rfl, hm.ext⟩
theorem walk_neg (v : Int) (s : ByteArray) (len : Int) (k : Nat) (at' : Int) (A B C : ByteArray) (f : Int) (h : ¬ 500 < s.size) (hat : at' < 0)
    (q0 : Says 19 #[.string { data := #[] }, .int .u64 v] (.string A)) (q1 : Says 13 #[.string { data := #[] }, .string s] (.tuple #[.string B, .int .i64 0]))
    (q3 : Says 14 #[.string { data := #[] }, labV len k] (.tuple #[.string C, .int .i64 f])) (w : World) :
    Calls Try.prog 4 #[.int .u64 v, .string s, labV len k, .int .i64 at'] w fun e w' => e = .returned (.bool true) ∧ Ext w w' := by
  go_enter Try.func4, Try.ntmps4
  have hm := Mem.refl w []
  go_wp2_with ((first | refine wpList_skip (by rfl) ?_ | (refine wlL (hm := hm) (hu := by first | exact undID | exact undLabel) (hi := by (try simp only [rowOf_size, idC_size]); first | exact sizeID | exact sizeLabel) (h := ?_); (try simp only [Act.put, k1, k2, k3]); (try simp only [← labV_eq, ← idV_eq])) | refine wlLC (hm := hm) (hu := by first | exact undInt | exact undU64) (h := ?_) | (refine wlS (hm := hm) (hv := (by first | rfl | exact idV_eq _ | exact labV_eq _ _ | exact rectV_eq _ _ _ _)) (hi := by (try simp only [rowOf_size, idC_size]); first | exact sizeID | exact sizeLabel) (hs := by first | (simp only [rowOf_size, idC_size]; done) | rfl) (h1 := by first | rfl | exact idC_one _ | exact rowOf_one _ _ (fun _ _ => rfl) | (simp only [List.size_toArray, List.length_cons, List.all_toArray', List.all_cons, List.all_nil, Value.oneCell', Bool.and_true, Bool.and_self]; done) | (simp [Value.oneCell']; done)) (h := ?_); clear hm; intro w1 hm; (try simp only [rowOf_set, k1, k2, k3, Value.cells, Act.eval, k7, k8, k9, kA, Option.getD_some] at hm)) | (refine wlSC (hm := hm) (hi := by first | exact sizeInt | exact sizeU64) (ho := by first | decide | (simp only [rowOf_size, idC_size]; omega) | (simp; done)) (h := ?_); clear hm; intro w1 hm; (try simp only [rowOf_set, k1, k2, k3, Value.cells, Act.eval, k7, k8, k9, kA, Option.getD_some] at hm)) | (refine wlA (hz := by first | exact zeroID | exact zeroLabel) (hm := hm) (h := ?_); clear hm; intro b1 w1 hm; (try simp only [rowOf_set, k1, k2, k3, Value.cells, Act.eval, k7, k8, k9, kA, Option.getD_some] at hm)) | (refine wl_box (by rfl) rfl (by first | exact idV_cells _ | exact labV_cells _ _ | exact rectV_cells _ _ _ _ | rfl) hm ?_; clear hm; intro b1 w1 hm) | (go_at_call 19; refine (q0 _).mono ?_; rintro e w1 ⟨rfl, hx⟩; replace hm := hm.call hx; clear hx) | (go_at_call 13; refine (q1 _).mono ?_; rintro e w1 ⟨rfl, hx⟩; replace hm := hm.call hx; clear hx) | (go_at_call 14; refine (q3 _).mono ?_; rintro e w1 ⟨rfl, hx⟩; replace hm := hm.call hx; clear hx) | (go_at_call 18; refine (wired_c _).mono ?_; rintro e w1 ⟨rfl, hx⟩; replace hm := hm.call hx; clear hx) | (go_at_call 23; refine (new_c _ _).mono ?_; rintro e w1 ⟨b1, rfl, hx⟩; replace hm := Mem.callOwn (B := []) hm hx; clear hx; simp only [List.cons_append, List.nil_append] at hm) | (go_at_call 24; refine ((y1 _) _ (hm.heap (by with_reducible first | exact at0 | exact at1 | exact at2 | exact at3 | exact at4 | exact at5))).mono ?_; rintro e w1 ⟨rfl, hx⟩; replace hm := hm.callAt (by with_reducible first | exact at0 | exact at1 | exact at2 | exact at3 | exact at4 | exact at5) hx; clear hx; simp only [k2, k3] at hm) | (go_at_call 25; refine ((y2 _) _ (hm.heap (by with_reducible first | exact at0 | exact at1 | exact at2 | exact at3 | exact at4 | exact at5))).mono ?_; rintro e w1 ⟨rfl, hx⟩; replace hm := hm.callAt (by with_reducible first | exact at0 | exact at1 | exact at2 | exact at3 | exact at4 | exact at5) hx; clear hx; simp only [k2, k3] at hm) | (go_at_call 26; refine ((y4 _) _ (hm.heap (by with_reducible first | exact at0 | exact at1 | exact at2 | exact at3 | exact at4 | exact at5))).mono ?_; rintro e w1 ⟨rfl, hx⟩; replace hm := hm.callAt (by with_reducible first | exact at0 | exact at1 | exact at2 | exact at3 | exact at4 | exact at5) hx; clear hx; simp only [k2, k3] at hm) | (go_at_call 24; refine (Number_nil _).mono ?_; rintro e w1 ⟨rfl, hx⟩; replace hm := hm.call hx; clear hx) | (go_at_call 26; refine (Label_nil _).mono ?_; rintro e w1 ⟨rfl, hx⟩; replace hm := hm.call hx; clear hx) | (go_at_call 27; refine (left_nil _).mono ?_; rintro e w1 ⟨rfl, hx⟩; replace hm := hm.call hx; clear hx) | (with_reducible first | refine stBs ?_ | refine stMs ?_ | refine stAp ?_ | refine stCo ?_)); (try simp only [k4, k5, k6, Act.put, k1, k2, k3]))
  go_ret
  exact ⟨rfl, hm.ext⟩
theorem walk_cut (v : Int) (s : ByteArray) (len : Int) (k : Nat) (t : Nat) (A B C A' B' C' : ByteArray) (na nb nc ma mb mc : Nat) (h : ¬ 500 < s.size) (ht : t < 2 ^ 63)
    (ha : A.size = na + 1) (hb : B.size = nb + 1) (hc : C.size = nc + 1) (hs : na + nb + nc < 100000) (hma : min t na = ma) (hmb : min t nb = mb) (hmc : min t nc = mc)
    (ca : A.extract 0 ma = A') (cb : B.extract 0 mb = B') (cc : C.extract 0 mc = C')
    (q0 : Says 19 #[.string { data := #[] }, .int .u64 v] (.string A)) (q1 : Says 13 #[.string { data := #[] }, .string s] (.tuple #[.string B, .int .i64 0]))
    (y1 : ∀ b, Takes 24 #[.pointer (some ⟨b, 0, none⟩)] b A' (.tuple #[.int .u64 0, .int .i64 4]) A')
    (y2 : ∀ b, Takes 25 #[.pointer (some ⟨b, 0, none⟩)] b B' (.tuple #[.string { data := #[] }, .int .i64 4]) B')
    (y4 : ∀ b, Takes 26 #[.pointer (some ⟨b, 0, none⟩)] b C' (.tuple #[labV 0 0, .int .i64 4]) C')
    (q : Says 14 #[.string { data := #[] }, labV len k] (.tuple #[.string C, .int .i64 0]) ∨ Says 14 #[.string { data := #[] }, labV len k] (.tuple #[.string { data := #[] }, .int .i64 1])) (w : World) :
    Calls Try.prog 4 #[.int .u64 v, .string s, labV len k, .int .i64 (t : Int)] w fun e w' => e = .returned (.bool true) ∧ Ext w w' := by
  have a1 := slice_to (s := A) (t := A') (n := ma) (by omega) ca
  have a2 := slice_to (s := B) (t := B') (n := mb) (by omega) cb
  have a3 := slice_to (s := C) (t := C') (n := mc) (by omega) cc
  obtain ⟨na1, hna1⟩ : ∃ x, na + 1 = x := ⟨_, rfl⟩
  obtain ⟨nb1, hnb1⟩ : ∃ x, nb + 1 = x := ⟨_, rfl⟩
  obtain ⟨nc1, hnc1⟩ : ∃ x, nc + 1 = x := ⟨_, rfl⟩
  rw [hna1] at ha
  rw [hnb1] at hb
  rw [hnc1] at hc
  have f1 : IntKind.i64.wrap ((na1 : Int) - 1) = (na : Int) := by rw [wrap_i64 (by omega) (by omega)]; omega
  have f2 : IntKind.i64.wrap ((nb1 : Int) - 1) = (nb : Int) := by rw [wrap_i64 (by omega) (by omega)]; omega
  have f3 : IntKind.i64.wrap ((nc1 : Int) - 1) = (nc : Int) := by rw [wrap_i64 (by omega) (by omega)]; omega
  have g1 : min (t : Int) (na : Int) = (ma : Int) := by omega
  have g2 : min (t : Int) (nb : Int) = (mb : Int) := by omega
  have g3 : min (t : Int) (nc : Int) = (mc : Int) := by omega
  have d1 : ¬ (na1 : Int) = 0 := by omega
  have d2 : ¬ (nb1 : Int) = 0 := by omega
  have d3 : ¬ (nc1 : Int) = 0 := by omega
  have d1' : ((na1 : Int) == 0) = false := by rw [beq_eq_false_iff_ne]; omega
  have d2' : ((nb1 : Int) == 0) = false := by rw [beq_eq_false_iff_ne]; omega
  have d3' : ((nc1 : Int) == 0) = false := by rw [beq_eq_false_iff_ne]; omega
  have z0 : ¬ (t : Int) < 0 := by omega
  clear hna1 hnb1 hnc1 hs ht ca cb cc
  rcases q with q3 | q3
  · go_enter Try.func4, Try.ntmps4
    have hm := Mem.refl w []
    go_wp2_with ((first | refine wpList_skip (by rfl) ?_ | (refine wlL (hm := hm) (hu := by first | exact undID | exact undLabel) (hi := by (try simp only [rowOf_size, idC_size]); first | exact sizeID | exact sizeLabel) (h := ?_); (try simp only [Act.put, k1, k2, k3]); (try simp only [← labV_eq, ← idV_eq])) | refine wlLC (hm := hm) (hu := by first | exact undInt | exact undU64) (h := ?_) | (refine wlS (hm := hm) (hv := (by first | rfl | exact idV_eq _ | exact labV_eq _ _ | exact rectV_eq _ _ _ _)) (hi := by (try simp only [rowOf_size, idC_size]); first | exact sizeID | exact sizeLabel) (hs := by first | (simp only [rowOf_size, idC_size]; done) | rfl) (h1 := by first | rfl | exact idC_one _ | exact rowOf_one _ _ (fun _ _ => rfl) | (simp only [List.size_toArray, List.length_cons, List.all_toArray', List.all_cons, List.all_nil, Value.oneCell', Bool.and_true, Bool.and_self]; done) | (simp [Value.oneCell']; done)) (h := ?_); clear hm; intro w1 hm; (try simp only [rowOf_set, k1, k2, k3, Value.cells, Act.eval, k7, k8, k9, kA, Option.getD_some] at hm)) | (refine wlSC (hm := hm) (hi := by first | exact sizeInt | exact sizeU64) (ho := by first | decide | (simp only [rowOf_size, idC_size]; omega) | (simp; done)) (h := ?_); clear hm; intro w1 hm; (try simp only [rowOf_set, k1, k2, k3, Value.cells, Act.eval, k7, k8, k9, kA, Option.getD_some] at hm)) | (refine wlA (hz := by first | exact zeroID | exact zeroLabel) (hm := hm) (h := ?_); clear hm; intro b1 w1 hm; (try simp only [rowOf_set, k1, k2, k3, Value.cells, Act.eval, k7, k8, k9, kA, Option.getD_some] at hm)) | (refine wl_box (by rfl) rfl (by first | exact idV_cells _ | exact labV_cells _ _ | exact rectV_cells _ _ _ _ | rfl) hm ?_; clear hm; intro b1 w1 hm) | (go_at_call 19; refine (q0 _).mono ?_; rintro e w1 ⟨rfl, hx⟩; replace hm := hm.call hx; clear hx) | (go_at_call 13; refine (q1 _).mono ?_; rintro e w1 ⟨rfl, hx⟩; replace hm := hm.call hx; clear hx) | (go_at_call 14; refine (q3 _).mono ?_; rintro e w1 ⟨rfl, hx⟩; replace hm := hm.call hx; clear hx) | (go_at_call 18; refine (wired_c _).mono ?_; rintro e w1 ⟨rfl, hx⟩; replace hm := hm.call hx; clear hx) | (go_at_call 23; refine (new_c _ _).mono ?_; rintro e w1 ⟨b1, rfl, hx⟩; replace hm := Mem.callOwn (B := []) hm hx; clear hx; simp only [List.cons_append, List.nil_append] at hm) | (go_at_call 24; refine ((y1 _) _ (hm.heap (by with_reducible first | exact at0 | exact at1 | exact at2 | exact at3 | exact at4 | exact at5))).mono ?_; rintro e w1 ⟨rfl, hx⟩; replace hm := hm.callAt (by with_reducible first | exact at0 | exact at1 | exact at2 | exact at3 | exact at4 | exact at5) hx; clear hx; simp only [k2, k3] at hm) | (go_at_call 25; refine ((y2 _) _ (hm.heap (by with_reducible first | exact at0 | exact at1 | exact at2 | exact at3 | exact at4 | exact at5))).mono ?_; rintro e w1 ⟨rfl, hx⟩; replace hm := hm.callAt (by with_reducible first | exact at0 | exact at1 | exact at2 | exact at3 | exact at4 | exact at5) hx; clear hx; simp only [k2, k3] at hm) | (go_at_call 26; refine ((y4 _) _ (hm.heap (by with_reducible first | exact at0 | exact at1 | exact at2 | exact at3 | exact at4 | exact at5))).mono ?_; rintro e w1 ⟨rfl, hx⟩; replace hm := hm.callAt (by with_reducible first | exact at0 | exact at1 | exact at2 | exact at3 | exact at4 | exact at5) hx; clear hx; simp only [k2, k3] at hm) | (go_at_call 24; refine (Number_nil _).mono ?_; rintro e w1 ⟨rfl, hx⟩; replace hm := hm.call hx; clear hx) | (go_at_call 26; refine (Label_nil _).mono ?_; rintro e w1 ⟨rfl, hx⟩; replace hm := hm.call hx; clear hx) | (go_at_call 27; refine (left_nil _).mono ?_; rintro e w1 ⟨rfl, hx⟩; replace hm := hm.call hx; clear hx) | (with_reducible first | refine stBs ?_ | refine stMs ?_ | refine stAp ?_ | refine stCo ?_)); (try simp only [k4, k5, k6, Act.put, k1, k2, k3]))
    go_ret
    exact ⟨rfl, hm.ext⟩
  · go_enter Try.func4, Try.ntmps4
    have hm := Mem.refl w []
    go_wp2_with ((first | refine wpList_skip (by rfl) ?_ | (refine wlL (hm := hm) (hu := by first | exact undID | exact undLabel) (hi := by (try simp only [rowOf_size, idC_size]); first | exact sizeID | exact sizeLabel) (h := ?_); (try simp only [Act.put, k1, k2, k3]); (try simp only [← labV_eq, ← idV_eq])) | refine wlLC (hm := hm) (hu := by first | exact undInt | exact undU64) (h := ?_) | (refine wlS (hm := hm) (hv := (by first | rfl | exact idV_eq _ | exact labV_eq _ _ | exact rectV_eq _ _ _ _)) (hi := by (try simp only [rowOf_size, idC_size]); first | exact sizeID | exact sizeLabel) (hs := by first | (simp only [rowOf_size, idC_size]; done) | rfl) (h1 := by first | rfl | exact idC_one _ | exact rowOf_one _ _ (fun _ _ => rfl) | (simp only [List.size_toArray, List.length_cons, List.all_toArray', List.all_cons, List.all_nil, Value.oneCell', Bool.and_true, Bool.and_self]; done) | (simp [Value.oneCell']; done)) (h := ?_); clear hm; intro w1 hm; (try simp only [rowOf_set, k1, k2, k3, Value.cells, Act.eval, k7, k8, k9, kA, Option.getD_some] at hm)) | (refine wlSC (hm := hm) (hi := by first | exact sizeInt | exact sizeU64) (ho := by first | decide | (simp only [rowOf_size, idC_size]; omega) | (simp; done)) (h := ?_); clear hm; intro w1 hm; (try simp only [rowOf_set, k1, k2, k3, Value.cells, Act.eval, k7, k8, k9, kA, Option.getD_some] at hm)) | (refine wlA (hz := by first | exact zeroID | exact zeroLabel) (hm := hm) (h := ?_); clear hm; intro b1 w1 hm; (try simp only [rowOf_set, k1, k2, k3, Value.cells, Act.eval, k7, k8, k9, kA, Option.getD_some] at hm)) | (refine wl_box (by rfl) rfl (by first | exact idV_cells _ | exact labV_cells _ _ | exact rectV_cells _ _ _ _ | rfl) hm ?_; clear hm; intro b1 w1 hm) | (go_at_call 19; refine (q0 _).mono ?_; rintro e w1 ⟨rfl, hx⟩; replace hm := hm.call hx; clear hx) | (go_at_call 13; refine (q1 _).mono ?_; rintro e w1 ⟨rfl, hx⟩; replace hm := hm.call hx; clear hx) | (go_at_call 14; refine (q3 _).mono ?_; rintro e w1 ⟨rfl, hx⟩; replace hm := hm.call hx; clear hx) | (go_at_call 18; refine (wired_c _).mono ?_; rintro e w1 ⟨rfl, hx⟩; replace hm := hm.call hx; clear hx) | (go_at_call 23; refine (new_c _ _).mono ?_; rintro e w1 ⟨b1, rfl, hx⟩; replace hm := Mem.callOwn (B := []) hm hx; clear hx; simp only [List.cons_append, List.nil_append] at hm) | (go_at_call 24; refine ((y1 _) _ (hm.heap (by with_reducible first | exact at0 | exact at1 | exact at2 | exact at3 | exact at4 | exact at5))).mono ?_; rintro e w1 ⟨rfl, hx⟩; replace hm := hm.callAt (by with_reducible first | exact at0 | exact at1 | exact at2 | exact at3 | exact at4 | exact at5) hx; clear hx; simp only [k2, k3] at hm) | (go_at_call 25; refine ((y2 _) _ (hm.heap (by with_reducible first | exact at0 | exact at1 | exact at2 | exact at3 | exact at4 | exact at5))).mono ?_; rintro e w1 ⟨rfl, hx⟩; replace hm := hm.callAt (by with_reducible first | exact at0 | exact at1 | exact at2 | exact at3 | exact at4 | exact at5) hx; clear hx; simp only [k2, k3] at hm) | (go_at_call 26; refine ((y4 _) _ (hm.heap (by with_reducible first | exact at0 | exact at1 | exact at2 | exact at3 | exact at4 | exact at5))).mono ?_; rintro e w1 ⟨rfl, hx⟩; replace hm := hm.callAt (by with_reducible first | exact at0 | exact at1 | exact at2 | exact at3 | exact at4 | exact at5) hx; clear hx; simp only [k2, k3] at hm) | (go_at_call 24; refine (Number_nil _).mono ?_; rintro e w1 ⟨rfl, hx⟩; replace hm := hm.call hx; clear hx) | (go_at_call 26; refine (Label_nil _).mono ?_; rintro e w1 ⟨rfl, hx⟩; replace hm := hm.call hx; clear hx) | (go_at_call 27; refine (left_nil _).mono ?_; rintro e w1 ⟨rfl, hx⟩; replace hm := hm.call hx; clear hx) | (with_reducible first | refine stBs ?_ | refine stMs ?_ | refine stAp ?_ | refine stCo ?_)); (try simp only [k4, k5, k6, Act.put, k1, k2, k3]))
    go_ret
    exact ⟨rfl, hm.ext⟩
theorem num_cut (v m : Nat) (hv : v < 2 ^ 64) (f : Nat → Nat) (h0 : f 0 = nB v) (hm : m ≤ nB v) : numE m f = 4 := by
  have h8 := nB_8 v hv
  unfold numE
  by_cases h : m = 0
  · rw [if_pos h]
  · rw [if_neg h, h0, if_neg (by omega), if_pos (by omega)]
theorem walk (v : Int) (wv : (Lit.int .u64 v).wf = true) (s : ByteArray) (_ : s.size ≤ maxLen) (len : Int) (k : Nat) (wl : k < 2 ^ 64 ∧ (Lit.int .i64 len).wf = true) (at' : Int) (wa : (Lit.int .i64 at').wf = true) (w : World) :
    Calls Try.prog 4 #[.int .u64 v, .string s, labV len k, .int .i64 at'] w fun e w' => e = .returned (.bool true) ∧ Ext w w' := by
  obtain ⟨v, rfl, hv⟩ := nat_u64 v wv
  by_cases h : 500 < s.size
  · exact walk_out v s len k at' h w
  · have hk := wl.1
    have h8 := nB_8 v hv
    have hz : s.size < 2 ^ 64 := by omega
    have h9 := nB_8 s.size hz
    have q0 := putNumber_c { data := #[] } v hv (by decide)
    rw [show ({ data := #[] } : ByteArray) ++ bytesB (nB v + 1) (numF v) = bytesB (nB v + 1) (numF v) from ByteArray.empty_append] at q0
    have q1 := putText_c { data := #[] } s (by omega) (by decide)
    rw [show ({ data := #[] } : ByteArray) ++ (bytesB (nB s.size + 1) (numF s.size) ++ s) = bytesB (nB s.size + 1) (numF s.size) ++ s from ByteArray.empty_append] at q1
    have hB : bytesB (nB s.size + 1) (numF s.size) ++ s = bytesB (nB s.size + 1 + s.size) (catF (nB s.size + 1) (numF s.size) (byteOf s)) := by rw [← catF_eq, byteOf_eq]
    rw [hB] at q1
    have hfB : ∀ j, catF (nB s.size + 1) (numF s.size) (byteOf s) j < 256 := catF_lt (fun j => numF_lt _ j hz) (byteOf_lt s)
    by_cases hneg : at' < 0
    · cases hl : isL len k with
      | false => exact walk_neg v s len k at' _ _ _ _ h hneg q0 q1 (putLabel_no _ len k (is_false len k hk hl)) w
      | true =>
        obtain ⟨n, rfl, hn, _⟩ := isL_nat len k hl
        exact walk_neg v s n k at' _ _ _ _ h hneg q0 q1 (putLabel_c _ (by decide) n k hn (is_true n k hk hl)) w
    · obtain ⟨t, rfl⟩ := Int.eq_ofNat_of_zero_le (show 0 ≤ at' by omega)
      have ht : t < 2 ^ 63 := by
        have := wa
        simp [Lit.wf, IntKind.min, IntKind.max, IntKind.bits, IntKind.signed] at this
        omega
      obtain ⟨ma, hma⟩ : ∃ m, min t (nB v) = m := ⟨_, rfl⟩
      obtain ⟨mb, hmb⟩ : ∃ m, min t (nB s.size + s.size) = m := ⟨_, rfl⟩
      have y1 : ∀ b, Takes 24 #[.pointer (some ⟨b, 0, none⟩)] b (bytesB ma (numF v)) (.tuple #[.int .u64 0, .int .i64 4]) (bytesB ma (numF v)) := fun b => by
        have e := num_cut v ma hv (numF v) (by unfold numF; rfl) (by omega)
        have hh := Number_err b ma (numF v) (fun j => numF_lt v j hv) (by omega)
        rw [e] at hh
        exact hh
      have y2 : ∀ b, Takes 25 #[.pointer (some ⟨b, 0, none⟩)] b (bytesB mb (catF (nB s.size + 1) (numF s.size) (byteOf s))) (.tuple #[.string { data := #[] }, .int .i64 4]) (bytesB mb (catF (nB s.size + 1) (numF s.size) (byteOf s))) := fun b => by
        have e : txtE mb (catF (nB s.size + 1) (numF s.size) (byteOf s)) = 4 := by
          unfold txtE
          by_cases hm : mb ≤ nB s.size
          · have e := num_cut s.size mb hz (catF (nB s.size + 1) (numF s.size) (byteOf s)) (by unfold catF numF; rw [if_pos (by omega), if_pos rfl]) hm
            rw [if_pos (by omega), e]
          · obtain ⟨h1, h2, h3⟩ := num_read mb s.size (catF (nB s.size + 1) (numF s.size) (byteOf s)) hz (by omega) (fun j hj => by unfold catF; rw [if_pos (by omega)])
            have h4 : txtN (catF (nB s.size + 1) (numF s.size) (byteOf s)) = s.size := h2
            rw [if_neg (by omega), h4, if_neg (by omega), h3, if_pos (by omega)]
        have hh := Text_err b mb _ hfB (by omega)
        rw [e] at hh
        exact hh
      have lab : ∀ n k m, n ≤ 64 → m ≤ (n + 7) / 8 → ∀ b, Takes 26 #[.pointer (some ⟨b, 0, none⟩)] b (bytesB m (labF n k)) (.tuple #[labV 0 0, .int .i64 4]) (bytesB m (labF n k)) := fun n k m hn hm b => by
        have h0 : labF n k 0 = n := by unfold labF; rfl
        have e : labE m (labF n k) = 4 := by
          unfold labE
          by_cases h : m = 0
          · rw [if_pos h]
          · rw [if_neg h, h0, if_neg (by omega), if_pos (by unfold labN; rw [h0]; omega)]
        have hh := Label_err b m (labF n k) (fun j => by unfold labF; split <;> omega) (by omega)
        rw [e] at hh
        exact hh
      cases hl : isL len k with
      | false =>
        exact walk_cut v s len k t _ _ (bytesB 1 (labF 0 0)) _ _ _ (nB v) (nB s.size + s.size) 0 ma mb 0 h ht (bytesB_size _ _) (by rw [bytesB_size]; omega) (bytesB_size _ _) (by omega) hma hmb (by omega)
          (bytesB_take _ _ _ (by omega)) (bytesB_take _ _ _ (by omega)) (bytesB_take _ _ _ (by omega)) q0 q1 y1 y2 (lab 0 0 0 (by omega) (by omega)) (Or.inr (putLabel_no _ len k (is_false len k hk hl))) w
      | true =>
        obtain ⟨n, rfl, hn, _⟩ := isL_nat len k hl
        have q3 := putLabel_c { data := #[] } (by decide) n k hn (is_true n k hk hl)
        rw [show ({ data := #[] } : ByteArray) ++ bytesB ((n + 7) / 8 + 1) (labF n k) = bytesB ((n + 7) / 8 + 1) (labF n k) from ByteArray.empty_append] at q3
        exact walk_cut v s n k t _ _ _ _ _ _ (nB v) (nB s.size + s.size) ((n + 7) / 8) ma mb _ h ht (bytesB_size _ _) (by rw [bytesB_size]; omega) (bytesB_size _ _) (by omega) hma hmb rfl
          (bytesB_take _ _ _ (by omega)) (bytesB_take _ _ _ (by omega)) (bytesB_take _ _ _ (by omega)) q0 q1 y1 y2 (lab n k _ hn (by omega)) (Or.inl q3) w

set_option maxRecDepth 100000 in
theorem lifted (os : Os) (started : os.Started) (H : Type) (enc : TypeId × Value → H) :
    ReturnsInHanded {} Try.checked os 4 .any (Rows.wireCutSpec.pre6 enc Try.prog Try.f4 Rows.wireCutRow.domain false) (Rows.wireCutSpec.post enc Try.prog Try.f4 false true false false) := by
  refine returnsInHanded_of_change (C := Try.checked) own started (by kernel_rfl) Try.func4
    (ChangeSpec.witness6 (enc := enc) (C := Try.checked) false ⟨#[], #[.int .u64 0, .string ByteArray.empty, .agg #[.int .i64 0, .int .u64 0], .int .i64 0], []⟩ 8 (by kernel_rfl) (by kernel_rfl) (by kernel_rfl) (by kernel_rfl)) ?_
  intro W base args ds gs before hval0 hW hcnd _
  have hval : ∀ (j : Nat) t v, Try.f4.params[j]? = some t → args[j]? = some v → Value.okWide Try.prog W .any base t v := hval0
  have hW' := hW
  obtain ⟨p, q, hA0, hV, rfl, hfz, hnd⟩ := hW
  have hA : DataW.TrodAll enc Try.prog W 0 (fun _ => true) true Try.f4.params.toList args.toList ds p := hA0
  rw [Try.params4] at hA hval
  obtain ⟨v0, vs0, d0, ds0, p0, q0, hargs, rfl, rfl, h0, r0⟩ := trodAll_cons hA
  obtain ⟨v1, vs1, d1, ds1, p1, q1, rfl, rfl, rfl, h1, r1⟩ := trodAll_cons r0
  obtain ⟨v2, vs2, d2, ds2, p2, q2, rfl, rfl, rfl, h2, r2⟩ := trodAll_cons r1
  obtain ⟨v3, vs3, d3, ds3, p3, q3, rfl, rfl, rfl, h3, r3⟩ := trodAll_cons r2
  obtain ⟨rfl, rfl, rfl⟩ := trodAll_nil r3
  obtain rfl : args = #[v0, v1, v2, v3] := by cases args; simp_all
  obtain ⟨rfl, rfl⟩ := trodVars_none hV
  have k0 := h0
  have lt0 : ∀ x ∈ p0, x.block < W.heap.size := by obtain ⟨m, hm⟩ := k0; exact DataW.trod_lt m _ _ _ hm
  have k1 := h1
  have lt1 : ∀ x ∈ p1, x.block < W.heap.size := by obtain ⟨m, hm⟩ := k1; exact DataW.trod_lt m _ _ _ hm
  have k2 := h2
  have lt2 : ∀ x ∈ p2, x.block < W.heap.size := by obtain ⟨m, hm⟩ := k2; exact DataW.trod_lt m _ _ _ hm
  have k3 := h3
  have lt3 : ∀ x ∈ p3, x.block < W.heap.size := by obtain ⟨m, hm⟩ := k3; exact DataW.trod_lt m _ _ _ hm
  obtain ⟨a0, rfl, _, _, w0⟩ := open_int Try.underlying22 (hval 0 22 v0 rfl rfl) h0
  obtain ⟨a1, rfl, _, _, w1⟩ := Go.ChangeMaps.open_string Try.underlying9 (hval 1 9 v1 rfl rfl) h1
  obtain ⟨a2, b2, rfl, w2⟩ := open_label (hval 2 26 v2 rfl rfl) h2
  obtain ⟨a3, rfl, _, _, w3⟩ := open_int Try.underlying3 (hval 3 3 v3 rfl rfl) h3
  clear hA0 hval0
  refine (walk a0 w0 a1 w1 a2 b2 w2 a3 w3 W).mono fun e W' ⟨he, ext⟩ => ?_
  subst he
  have bel := ext.below
  exact ⟨_, rfl, _, _, _, [], _, [], hW', trodAll_mk1 (shut_bool Try.underlying4 _), (trodAll_cons_mk (Below.trod laidOut (by kernel_rfl) (of_decide_eq_true (by kernel_rfl)) k0 bel lt0) (trodAll_cons_mk (Below.trod laidOut (by kernel_rfl) (of_decide_eq_true (by kernel_rfl)) k1 bel lt1) (trodAll_cons_mk (Below.trod laidOut (by kernel_rfl) (of_decide_eq_true (by kernel_rfl)) k2 bel lt2) (trodAll_cons_mk (Below.trod laidOut (by kernel_rfl) (of_decide_eq_true (by kernel_rfl)) k3 bel lt3) trodAll_mk0)))), rfl, bel.frame _, fun h => by cases h⟩

theorem over : Rows.wireCutRow.holds Try.pinned (OpenSpec.ofChange Rows.wireCutSpec) :=
  OpenClaim.holds_of_wide 4 Try.f4 rfl rfl rfl rfl rfl rfl rfl ⟨rfl, rfl, rfl, rfl, rfl⟩ rfl rfl rfl rfl rfl (by kernel_rfl) Try.func4 (by kernel_rfl)
    (of_decide_eq_true (by kernel_rfl)) (by unfold Func.isWrapper; first | (rw [if_pos (by decide +kernel)]; kernel_rfl) | (rw [if_neg (by decide +kernel)]; exact ⟨rfl, rfl⟩))
    (fun os started H enc _ => lifted os started H enc)

theorem proved : Rows.WireCutSaid := over
#print axioms proved
end Go.Proofs.Ytijkmbebfodhdaa.lawWCut
