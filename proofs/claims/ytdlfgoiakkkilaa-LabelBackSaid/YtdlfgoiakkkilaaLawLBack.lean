/- For every two labels l and m the call LabelBack(l, m) returns true and leaves its arguments as they were: a label that is written is read as it was, and its place is the sum of its text; no two labels are written alike. No condition. -/
import Derived.Test.YtdlfgoiakkkilaaLabN
import Derived.Test.YtdlfgoiakkkilaaLabY
import Derived.Test.YtdlfgoiakkkilaaOpenL
import Derived.Test.YtdlfgoiakkkilaaOpenS
import Derived.Test.YtdlfgoiakkkilaaRows
namespace Go.Proofs.Ytdlfgoiakkkilaa.lawLBack
open Go.ChangeShapes Go.WideShapes Go.ChangeAt Go.RowKit
set_option linter.unusedSimpArgs false
set_option linter.unusedVariables false
set_option maxHeartbeats 4000000
set_option maxRecDepth 20000
attribute [local irreducible] wpQuiet wpList wpAnyH Calls

theorem eqLab_refl (l : Int) (b : Nat) : eqLab l b l b = true := by simp [eqLab]
theorem walk_no (len : Int) (b : Nat) (len' : Int) (b' : Nat) (t : ByteArray) (e2 : Int)
    (hT : Says 14 #[labV len b] (.tuple #[.string { data := #[] }, .int .i64 1])) (hT2 : Says 14 #[labV len' b'] (.tuple #[.string t, .int .i64 e2]))
    (hP : Says 15 #[labV len b] (.tuple #[idV 0, .int .i64 1])) (hI : Says 17 #[labV len b] (.bool false)) (w : World) :
    Calls Try.prog 3 #[labV len b, labV len' b'] w fun e w' => e = .returned (.bool true) ∧ Ext w w' := by
  go_enter Try.func3, Try.ntmps3
  have hm := Mem.refl w []
  go_wp2_with ((first | refine wpList_skip (by rfl) ?_ | (refine wlL (hm := hm) (hu := by first | exact undLabel | exact undID) (hi := by (try simp only [rowOf_size, idC_size]); first | exact sizeLabel | exact sizeID) (h := ?_); (try simp only [Act.put, k1, k2, k3]); (try simp only [← labV_eq, ← idV_eq])) | refine wlLC (hm := hm) (hu := by first | exact undInt | exact undU64) (h := ?_) | (refine wlS (hm := hm) (hv := (by first | rfl | exact idV_eq _ | exact labV_eq _ _ | exact rectV_eq _ _ _ _)) (hi := by (try simp only [rowOf_size, idC_size]); first | exact sizeLabel | exact sizeID) (hs := by first | (simp only [rowOf_size, idC_size]; done) | rfl) (h1 := by first | rfl | exact idC_one _ | exact rowOf_one _ _ (fun _ _ => rfl) | (simp only [List.size_toArray, List.length_cons, List.all_toArray', List.all_cons, List.all_nil, Value.oneCell', Bool.and_true, Bool.and_self]; done) | (simp [Value.oneCell']; done)) (h := ?_); clear hm; intro w1 hm; (try simp only [rowOf_set, k1, k2, k3, Value.cells, Act.eval, k7, k8, k9, kA, Option.getD_some] at hm)) | (refine wlSC (hm := hm) (hi := by first | exact sizeInt | exact sizeU64) (ho := by first | decide | (simp only [rowOf_size, idC_size]; omega) | (simp; done)) (h := ?_); clear hm; intro w1 hm; (try simp only [rowOf_set, k1, k2, k3, Value.cells, Act.eval, k7, k8, k9, kA, Option.getD_some] at hm)) | (refine wlA (hz := by first | exact zeroLabel | exact zeroID) (hm := hm) (h := ?_); clear hm; intro b1 w1 hm; (try simp only [rowOf_set, k1, k2, k3, Value.cells, Act.eval, k7, k8, k9, kA, Option.getD_some] at hm)) | (refine wl_box (by rfl) rfl (by first | exact idV_cells _ | exact labV_cells _ _ | exact rectV_cells _ _ _ _ | rfl) hm ?_; clear hm; intro b1 w1 hm) | (refine wl_build (by rfl) (built_id) rfl ?_; (try simp only [Act.put, k1, k2, k3]); (try simp only [← labV_eq, ← idV_eq])) | ((with_reducible show wpList _ _ _ (⟨_, .binOp .eql 29 _ _ _, _, _, _, _⟩ :: _) _ _); refine wl_op (by rfl) fun K hK => ?_; refine ow_value (exec_eqlID _ _ _ _ rfl rfl _) (hK _ _ ?_); clear hK K) | (go_at_call 14; refine (hT _).mono ?_; rintro e w1 ⟨rfl, hx⟩; replace hm := hm.call hx; clear hx) | (go_at_call 14; refine (hT2 _).mono ?_; rintro e w1 ⟨rfl, hx⟩; replace hm := hm.call hx; clear hx) | (go_at_call 15; refine (hP _).mono ?_; rintro e w1 ⟨rfl, hx⟩; replace hm := hm.call hx; clear hx) | (with_reducible first | refine stBs ?_ | refine stMs ?_ | refine stAp ?_ | refine stCo ?_)); (try simp only [k4, k5, k6, Act.put, k1, k2, k3]))
  go_wp2_with (with_reducible first | refine stAl ?_ | refine stBo ?_ | refine stLo ?_ | refine stSo ?_ | refine stBu ?_ | refine stBs ?_ | refine stMs ?_ | refine stAp ?_ | refine stCo ?_); refine (named_c _).mono ?_; rintro e w5 ⟨rfl, hx⟩; replace hm := hm.call hx; clear hx
  go_wp2_with (with_reducible first | refine stAl ?_ | refine stBo ?_ | refine stLo ?_ | refine stSo ?_ | refine stBu ?_ | refine stBs ?_ | refine stMs ?_ | refine stAp ?_ | refine stCo ?_); refine Stop.go (wl_load (i := 0) (by rfl) hm rfl rfl undID rfl (by first | exact sizeID | (simp only [rowOf_size, idC_size]; exact sizeID)) ?_); simp only [Act.put, k1, k2, k3]; (try simp only [← labV_eq, ← idV_eq])
  go_wp2_with (with_reducible first | refine stAl ?_ | refine stBo ?_ | refine stLo ?_ | refine stSo ?_ | refine stBu ?_ | refine stBs ?_ | refine stMs ?_ | refine stAp ?_ | refine stCo ?_); refine Stop.go (wl_build (by rfl) (built_id) (by simp [Act.eval]) ?_); simp only [Act.put, k1, k2, k3]
  refine wl_op (by rfl) fun K hK => ?_
  refine ow_value (exec_eqlID _ 0 _ _ rfl idV_zero.symm _) (hK _ _ ?_)
  clear hK K
  simp only [Act.put, k1, k2, k3]
  go_wp2_with ((first | refine wpList_skip (by rfl) ?_ | (refine wlL (hm := hm) (hu := by first | exact undLabel | exact undID) (hi := by (try simp only [rowOf_size, idC_size]); first | exact sizeLabel | exact sizeID) (h := ?_); (try simp only [Act.put, k1, k2, k3]); (try simp only [← labV_eq, ← idV_eq])) | refine wlLC (hm := hm) (hu := by first | exact undInt | exact undU64) (h := ?_) | (refine wlS (hm := hm) (hv := (by first | rfl | exact idV_eq _ | exact labV_eq _ _ | exact rectV_eq _ _ _ _)) (hi := by (try simp only [rowOf_size, idC_size]); first | exact sizeLabel | exact sizeID) (hs := by first | (simp only [rowOf_size, idC_size]; done) | rfl) (h1 := by first | rfl | exact idC_one _ | exact rowOf_one _ _ (fun _ _ => rfl) | (simp only [List.size_toArray, List.length_cons, List.all_toArray', List.all_cons, List.all_nil, Value.oneCell', Bool.and_true, Bool.and_self]; done) | (simp [Value.oneCell']; done)) (h := ?_); clear hm; intro w1 hm; (try simp only [rowOf_set, k1, k2, k3, Value.cells, Act.eval, k7, k8, k9, kA, Option.getD_some] at hm)) | (refine wlSC (hm := hm) (hi := by first | exact sizeInt | exact sizeU64) (ho := by first | decide | (simp only [rowOf_size, idC_size]; omega) | (simp; done)) (h := ?_); clear hm; intro w1 hm; (try simp only [rowOf_set, k1, k2, k3, Value.cells, Act.eval, k7, k8, k9, kA, Option.getD_some] at hm)) | (refine wlA (hz := by first | exact zeroLabel | exact zeroID) (hm := hm) (h := ?_); clear hm; intro b1 w1 hm; (try simp only [rowOf_set, k1, k2, k3, Value.cells, Act.eval, k7, k8, k9, kA, Option.getD_some] at hm)) | (refine wl_box (by rfl) rfl (by first | exact idV_cells _ | exact labV_cells _ _ | exact rectV_cells _ _ _ _ | rfl) hm ?_; clear hm; intro b1 w1 hm) | (refine wl_build (by rfl) (built_id) rfl ?_; (try simp only [Act.put, k1, k2, k3]); (try simp only [← labV_eq, ← idV_eq])) | ((with_reducible show wpList _ _ _ (⟨_, .binOp .eql 29 _ _ _, _, _, _, _⟩ :: _) _ _); refine wl_op (by rfl) fun K hK => ?_; refine ow_value (exec_eqlID _ _ _ _ rfl rfl _) (hK _ _ ?_); clear hK K) | (go_at_call 14; refine (hT _).mono ?_; rintro e w1 ⟨rfl, hx⟩; replace hm := hm.call hx; clear hx) | (go_at_call 14; refine (hT2 _).mono ?_; rintro e w1 ⟨rfl, hx⟩; replace hm := hm.call hx; clear hx) | (go_at_call 15; refine (hP _).mono ?_; rintro e w1 ⟨rfl, hx⟩; replace hm := hm.call hx; clear hx) | (go_at_call 16; refine (named_c _).mono ?_; rintro e w1 ⟨rfl, hx⟩; replace hm := hm.call hx; clear hx) | (go_at_call 17; refine (hI _).mono ?_; rintro e w1 ⟨rfl, hx⟩; replace hm := hm.call hx; clear hx) | (go_at_call 18; refine (hR _).mono ?_; rintro e w1 ⟨rfl, hx⟩; replace hm := hm.call hx; clear hx) | (go_at_call 19; refine (hS _).mono ?_; rintro e w1 ⟨rfl, hx⟩; replace hm := hm.call hx; clear hx) | (with_reducible first | refine stBs ?_ | refine stMs ?_ | refine stAp ?_ | refine stCo ?_)); (try simp only [k4, k5, k6, Act.put, k1, k2, k3]))
  go_ret
  exact ⟨rfl, hm.ext⟩
theorem walk_one (n : Nat) (b : Nat) (len' : Int) (b' : Nat) (s t : ByteArray) (N : Nat) (hsz : s.size = n + 1) (hn : n ≤ 64)
    (hT : Says 14 #[labV (n : Int) b] (.tuple #[.string s, .int .i64 0])) (hT2 : Says 14 #[labV len' b'] (.tuple #[.string t, .int .i64 1]))
    (hP : Says 15 #[labV (n : Int) b] (.tuple #[idV N, .int .i64 0])) (hR : Says 18 #[.string s] (.tuple #[labV (n : Int) b, .int .i64 0]))
    (hS : Says 19 #[.string ({ data := #[112, 104, 116] } ++ s)] (.tuple #[idV N, .int .i64 0])) (w : World) :
    Calls Try.prog 3 #[labV (n : Int) b, labV len' b'] w fun e w' => e = .returned (.bool true) ∧ Ext w w' := by
  have s1 : ¬ 9223372036854775807 < 3 + (n + 1) := by omega
  have f0 : IntKind.i64.wrap ((n : Int) + 1) = (n : Int) + 1 := wrap_i64 (by omega) (by omega)
  have p0 := eqLab_refl (n : Int) b
  go_enter Try.func3, Try.ntmps3
  have hm := Mem.refl w []
  go_wp2_with ((first | refine wpList_skip (by rfl) ?_ | (refine wlL (hm := hm) (hu := by first | exact undLabel | exact undID) (hi := by (try simp only [rowOf_size, idC_size]); first | exact sizeLabel | exact sizeID) (h := ?_); (try simp only [Act.put, k1, k2, k3]); (try simp only [← labV_eq, ← idV_eq])) | refine wlLC (hm := hm) (hu := by first | exact undInt | exact undU64) (h := ?_) | (refine wlS (hm := hm) (hv := (by first | rfl | exact idV_eq _ | exact labV_eq _ _ | exact rectV_eq _ _ _ _)) (hi := by (try simp only [rowOf_size, idC_size]); first | exact sizeLabel | exact sizeID) (hs := by first | (simp only [rowOf_size, idC_size]; done) | rfl) (h1 := by first | rfl | exact idC_one _ | exact rowOf_one _ _ (fun _ _ => rfl) | (simp only [List.size_toArray, List.length_cons, List.all_toArray', List.all_cons, List.all_nil, Value.oneCell', Bool.and_true, Bool.and_self]; done) | (simp [Value.oneCell']; done)) (h := ?_); clear hm; intro w1 hm; (try simp only [rowOf_set, k1, k2, k3, Value.cells, Act.eval, k7, k8, k9, kA, Option.getD_some] at hm)) | (refine wlSC (hm := hm) (hi := by first | exact sizeInt | exact sizeU64) (ho := by first | decide | (simp only [rowOf_size, idC_size]; omega) | (simp; done)) (h := ?_); clear hm; intro w1 hm; (try simp only [rowOf_set, k1, k2, k3, Value.cells, Act.eval, k7, k8, k9, kA, Option.getD_some] at hm)) | (refine wlA (hz := by first | exact zeroLabel | exact zeroID) (hm := hm) (h := ?_); clear hm; intro b1 w1 hm; (try simp only [rowOf_set, k1, k2, k3, Value.cells, Act.eval, k7, k8, k9, kA, Option.getD_some] at hm)) | (refine wl_box (by rfl) rfl (by first | exact idV_cells _ | exact labV_cells _ _ | exact rectV_cells _ _ _ _ | rfl) hm ?_; clear hm; intro b1 w1 hm) | (refine wl_build (by rfl) (built_id) rfl ?_; (try simp only [Act.put, k1, k2, k3]); (try simp only [← labV_eq, ← idV_eq])) | ((with_reducible show wpList _ _ _ (⟨_, .binOp .eql 29 _ _ _, _, _, _, _⟩ :: _) _ _); refine wl_op (by rfl) fun K hK => ?_; refine ow_value (exec_eqlID _ _ _ _ rfl rfl _) (hK _ _ ?_); clear hK K) | (go_at_call 14; refine (hT _).mono ?_; rintro e w1 ⟨rfl, hx⟩; replace hm := hm.call hx; clear hx) | (go_at_call 14; refine (hT2 _).mono ?_; rintro e w1 ⟨rfl, hx⟩; replace hm := hm.call hx; clear hx) | (go_at_call 15; refine (hP _).mono ?_; rintro e w1 ⟨rfl, hx⟩; replace hm := hm.call hx; clear hx) | (go_at_call 16; refine (named_c _).mono ?_; rintro e w1 ⟨rfl, hx⟩; replace hm := hm.call hx; clear hx) | (go_at_call 17; refine (hI _).mono ?_; rintro e w1 ⟨rfl, hx⟩; replace hm := hm.call hx; clear hx) | (go_at_call 18; refine (hR _).mono ?_; rintro e w1 ⟨rfl, hx⟩; replace hm := hm.call hx; clear hx) | (go_at_call 19; refine (hS _).mono ?_; rintro e w1 ⟨rfl, hx⟩; replace hm := hm.call hx; clear hx) | (with_reducible first | refine stBs ?_ | refine stMs ?_ | refine stAp ?_ | refine stCo ?_)); (try simp only [k4, k5, k6, Act.put, k1, k2, k3]))
  go_ret
  exact ⟨rfl, hm.ext⟩
theorem walk_two (n : Nat) (b : Nat) (len' : Int) (b' : Nat) (s t : ByteArray) (N : Nat) (hsz : s.size = n + 1) (hn : n ≤ 64) (q : Bool) (q1 : (s.toList == t.toList) = q) (q2 : eqLab (n : Int) b len' b' = q)
    (hT : Says 14 #[labV (n : Int) b] (.tuple #[.string s, .int .i64 0])) (hT2 : Says 14 #[labV len' b'] (.tuple #[.string t, .int .i64 0]))
    (hP : Says 15 #[labV (n : Int) b] (.tuple #[idV N, .int .i64 0])) (hR : Says 18 #[.string s] (.tuple #[labV (n : Int) b, .int .i64 0]))
    (hS : Says 19 #[.string ({ data := #[112, 104, 116] } ++ s)] (.tuple #[idV N, .int .i64 0])) (w : World) :
    Calls Try.prog 3 #[labV (n : Int) b, labV len' b'] w fun e w' => e = .returned (.bool true) ∧ Ext w w' := by
  have s1 : ¬ 9223372036854775807 < 3 + (n + 1) := by omega
  have f0 : IntKind.i64.wrap ((n : Int) + 1) = (n : Int) + 1 := wrap_i64 (by omega) (by omega)
  have p0 := eqLab_refl (n : Int) b
  go_enter Try.func3, Try.ntmps3
  have hm := Mem.refl w []
  go_wp2_with ((first | refine wpList_skip (by rfl) ?_ | (refine wlL (hm := hm) (hu := by first | exact undLabel | exact undID) (hi := by (try simp only [rowOf_size, idC_size]); first | exact sizeLabel | exact sizeID) (h := ?_); (try simp only [Act.put, k1, k2, k3]); (try simp only [← labV_eq, ← idV_eq])) | refine wlLC (hm := hm) (hu := by first | exact undInt | exact undU64) (h := ?_) | (refine wlS (hm := hm) (hv := (by first | rfl | exact idV_eq _ | exact labV_eq _ _ | exact rectV_eq _ _ _ _)) (hi := by (try simp only [rowOf_size, idC_size]); first | exact sizeLabel | exact sizeID) (hs := by first | (simp only [rowOf_size, idC_size]; done) | rfl) (h1 := by first | rfl | exact idC_one _ | exact rowOf_one _ _ (fun _ _ => rfl) | (simp only [List.size_toArray, List.length_cons, List.all_toArray', List.all_cons, List.all_nil, Value.oneCell', Bool.and_true, Bool.and_self]; done) | (simp [Value.oneCell']; done)) (h := ?_); clear hm; intro w1 hm; (try simp only [rowOf_set, k1, k2, k3, Value.cells, Act.eval, k7, k8, k9, kA, Option.getD_some] at hm)) | (refine wlSC (hm := hm) (hi := by first | exact sizeInt | exact sizeU64) (ho := by first | decide | (simp only [rowOf_size, idC_size]; omega) | (simp; done)) (h := ?_); clear hm; intro w1 hm; (try simp only [rowOf_set, k1, k2, k3, Value.cells, Act.eval, k7, k8, k9, kA, Option.getD_some] at hm)) | (refine wlA (hz := by first | exact zeroLabel | exact zeroID) (hm := hm) (h := ?_); clear hm; intro b1 w1 hm; (try simp only [rowOf_set, k1, k2, k3, Value.cells, Act.eval, k7, k8, k9, kA, Option.getD_some] at hm)) | (refine wl_box (by rfl) rfl (by first | exact idV_cells _ | exact labV_cells _ _ | exact rectV_cells _ _ _ _ | rfl) hm ?_; clear hm; intro b1 w1 hm) | (refine wl_build (by rfl) (built_id) rfl ?_; (try simp only [Act.put, k1, k2, k3]); (try simp only [← labV_eq, ← idV_eq])) | ((with_reducible show wpList _ _ _ (⟨_, .binOp .eql 29 _ _ _, _, _, _, _⟩ :: _) _ _); refine wl_op (by rfl) fun K hK => ?_; refine ow_value (exec_eqlID _ _ _ _ rfl rfl _) (hK _ _ ?_); clear hK K) | (go_at_call 14; refine (hT _).mono ?_; rintro e w1 ⟨rfl, hx⟩; replace hm := hm.call hx; clear hx) | (go_at_call 14; refine (hT2 _).mono ?_; rintro e w1 ⟨rfl, hx⟩; replace hm := hm.call hx; clear hx) | (go_at_call 15; refine (hP _).mono ?_; rintro e w1 ⟨rfl, hx⟩; replace hm := hm.call hx; clear hx) | (go_at_call 16; refine (named_c _).mono ?_; rintro e w1 ⟨rfl, hx⟩; replace hm := hm.call hx; clear hx) | (go_at_call 17; refine (hI _).mono ?_; rintro e w1 ⟨rfl, hx⟩; replace hm := hm.call hx; clear hx) | (go_at_call 18; refine (hR _).mono ?_; rintro e w1 ⟨rfl, hx⟩; replace hm := hm.call hx; clear hx) | (go_at_call 19; refine (hS _).mono ?_; rintro e w1 ⟨rfl, hx⟩; replace hm := hm.call hx; clear hx) | (with_reducible first | refine stBs ?_ | refine stMs ?_ | refine stAp ?_ | refine stCo ?_)); (try simp only [k4, k5, k6, Act.put, k1, k2, k3]))
  go_ret
  exact ⟨rfl, hm.ext⟩

theorem walk (len : Int) (b : Nat) (wl : b < 2 ^ 64 ∧ (Lit.int .i64 len).wf = true) (len' : Int) (b' : Nat) (wl' : b' < 2 ^ 64 ∧ (Lit.int .i64 len').wf = true) (w : World) :
    Calls Try.prog 3 #[labV len b, labV len' b'] w fun e w' => e = .returned (.bool true) ∧ Ext w w' := by
  have hb := wl.1
  have hb' := wl'.1
  cases hl : isL len b with
  | false =>
    have hT : Says 14 _ _ := text_false len b hl hb
    cases hl' : isL len' b' with
    | false => exact walk_no len b len' b' _ _ hT (text_false len' b' hl' hb') (place_no len b _ hT) (is_false len b hb hl) w
    | true =>
      obtain ⟨m, rfl, hm, _⟩ := isL_nat len' b' hl'
      exact walk_no len b _ b' _ _ hT (text_true m b' hl' hb' hm) (place_no len b _ hT) (is_false len b hb hl) w
  | true =>
    obtain ⟨n, rfl, hn, _⟩ := isL_nat len b hl
    have hT : Says 14 _ _ := text_true n b hl hb hn
    have hS : Says 19 _ _ := sum_ok _ (hash_size n b hn)
    have hP := place_go (n : Int) b (textL n b) _ (by rw [textL_size]; omega) hT hS
    have hR := parse_text n b hn hb (isL_mod n b hl)
    cases hl' : isL len' b' with
    | false => exact walk_one n b len' b' _ _ _ (textL_size n b) hn hT (text_false len' b' hl' hb') hP hR hS w
    | true =>
      obtain ⟨m, rfl, hm, _⟩ := isL_nat len' b' hl'
      exact walk_two n b _ b' _ _ _ (textL_size n b) hn _ (text_same n b m b' hn hm hb hb' (isL_mod n b hl) (isL_mod m b' hl')) rfl hT (text_true m b' hl' hb' hm) hP hR hS w

set_option maxRecDepth 100000 in
theorem lifted (os : Os) (started : os.Started) (H : Type) (enc : TypeId × Value → H) :
    ReturnsInHanded {} Try.checked os 3 .any (Rows.labelBackSpec.pre6 enc Try.prog Try.f3 Rows.labelBackRow.domain false) (Rows.labelBackSpec.post enc Try.prog Try.f3 false true false false) := by
  refine returnsInHanded_of_change (C := Try.checked) own started (by kernel_rfl) Try.func3
    (ChangeSpec.witness6 (enc := enc) (C := Try.checked) false ⟨#[], #[.agg #[.int .i64 0, .int .u64 0], .agg #[.int .i64 0, .int .u64 0]], []⟩ 8 (by kernel_rfl) (by kernel_rfl) (by kernel_rfl) (by kernel_rfl)) ?_
  intro W base args ds gs before hval0 hW hcnd _
  have hval : ∀ (j : Nat) t v, Try.f3.params[j]? = some t → args[j]? = some v → Value.okWide Try.prog W .any base t v := hval0
  have hW' := hW
  obtain ⟨p, q, hA0, hV, rfl, hfz, hnd⟩ := hW
  have hA : DataW.TrodAll enc Try.prog W 0 (fun _ => true) true Try.f3.params.toList args.toList ds p := hA0
  rw [Try.params3] at hA hval
  obtain ⟨v0, vs0, d0, ds0, p0, q0, hargs, rfl, rfl, h0, r0⟩ := trodAll_cons hA
  obtain ⟨v1, vs1, d1, ds1, p1, q1, rfl, rfl, rfl, h1, r1⟩ := trodAll_cons r0
  obtain ⟨rfl, rfl, rfl⟩ := trodAll_nil r1
  obtain rfl : args = #[v0, v1] := by cases args; simp_all
  obtain ⟨rfl, rfl⟩ := trodVars_none hV
  have k0 := h0
  have lt0 : ∀ x ∈ p0, x.block < W.heap.size := by obtain ⟨m, hm⟩ := k0; exact DataW.trod_lt m _ _ _ hm
  have k1 := h1
  have lt1 : ∀ x ∈ p1, x.block < W.heap.size := by obtain ⟨m, hm⟩ := k1; exact DataW.trod_lt m _ _ _ hm
  obtain ⟨a0, b0, rfl, w0⟩ := open_label (hval 0 24 v0 rfl rfl) h0
  obtain ⟨a1, b1, rfl, w1⟩ := open_label (hval 1 24 v1 rfl rfl) h1
  clear hA0 hval0
  refine (walk a0 b0 w0 a1 b1 w1 W).mono fun e W' ⟨he, ext⟩ => ?_
  subst he
  have bel := ext.below
  exact ⟨_, rfl, _, _, _, [], _, [], hW', trodAll_mk1 (shut_bool Try.underlying4 _), (trodAll_cons_mk (Below.trod laidOut (by kernel_rfl) (of_decide_eq_true (by kernel_rfl)) k0 bel lt0) (trodAll_cons_mk (Below.trod laidOut (by kernel_rfl) (of_decide_eq_true (by kernel_rfl)) k1 bel lt1) trodAll_mk0)), rfl, bel.frame _, fun h => by cases h⟩

theorem over : Rows.labelBackRow.holds Try.pinned (OpenSpec.ofChange Rows.labelBackSpec) :=
  OpenClaim.holds_of_wide 3 Try.f3 rfl rfl rfl rfl rfl rfl rfl ⟨rfl, rfl, rfl, rfl, rfl⟩ rfl rfl rfl rfl rfl (by kernel_rfl) Try.func3 (by kernel_rfl)
    (of_decide_eq_true (by kernel_rfl)) (by unfold Func.isWrapper; first | (rw [if_pos (by decide +kernel)]; kernel_rfl) | (rw [if_neg (by decide +kernel)]; exact ⟨rfl, rfl⟩))
    (fun os started H enc _ => lifted os started H enc)

theorem proved : Rows.LabelBackSaid := over
#print axioms proved
end Go.Proofs.Ytdlfgoiakkkilaa.lawLBack
