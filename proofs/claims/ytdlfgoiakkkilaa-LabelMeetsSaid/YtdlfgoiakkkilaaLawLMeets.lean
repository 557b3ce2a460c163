/- For every two labels l, m and every key the call LabelMeets(l, m, key) returns true and leaves its arguments as they were: two labels cover keys in common just if one is within the other one; a key is covered just if it is in the span. No condition. -/
import Derived.Test.YtdlfgoiakkkilaaLabN
import Derived.Test.YtdlfgoiakkkilaaLabW
import Derived.Test.YtdlfgoiakkkilaaOpenL
import Derived.Test.YtdlfgoiakkkilaaRows
namespace Go.Proofs.Ytdlfgoiakkkilaa.lawLMeets
open Go.ChangeShapes Go.WideShapes Go.ChangeAt Go.RowKit
set_option linter.unusedSimpArgs false
set_option linter.unusedVariables false
set_option maxHeartbeats 4000000
set_option maxRecDepth 20000
attribute [local irreducible] wpQuiet wpList wpAnyH Calls

theorem walk_no (len : Int) (b : Nat) (len' : Int) (b' : Nat) (key : Int) (x y z u e2 : Int) (r : Bool) (hw : withinM len b len' b' = false) (hb : b < 2 ^ 64) (hb' : b' < 2 ^ 64)
    (hS : Says 26 #[labV len b] (.tuple #[.int .u64 0, .int .u64 0, .int .i64 1])) (hS2 : Says 26 #[labV len' b'] (.tuple #[.int .u64 z, .int .u64 u, .int .i64 e2])) (hV : Says 34 #[labV len b, .int .u64 key] (.bool false)) (w : World) :
    Calls Try.prog 5 #[labV len b, labV len' b', .int .u64 key] w fun e w' => e = .returned (.bool true) ∧ Ext w w' := by
  have hW := within_c len b len' b' hb hb'
  rw [hw] at hW
  have hW2 := hW
  go_enter Try.func5, Try.ntmps5
  have hm := Mem.refl w []
  go_wp2_with (first | ((with_reducible show wpList _ _ _ (⟨_, .load _ _, _, _, _, _⟩ :: _) _ _); first | (refine wpList_skip (by rfl) ?_; (try simp only [Act.put, List.setIfInBounds_toArray, List.set_cons_zero, List.set_cons_succ])) | (refine wl_load (by rfl) hm (by with_reducible first | exact at0 | exact at1 | exact at2) rfl (by first | exact undLabel) (by rfl) (by (try simp only [rowOf_size]); first | exact sizeLabel) ?_; (try simp only [Act.put, List.setIfInBounds_toArray, List.set_cons_zero, List.set_cons_succ]); (try simp only [← labV_eq])) | (refine wl_loadCell (by rfl) hm (by with_reducible first | exact at0 | exact at1 | exact at2) rfl (by rfl) (by first | exact undInt | exact undU64) (by rfl) ?_; (try simp only [List.getElem_toArray, List.getElem_cons_zero, List.getElem_cons_succ, Act.put, List.setIfInBounds_toArray, List.set_cons_zero, List.set_cons_succ]))) | ((with_reducible show wpList _ _ _ (⟨_, .store _ _ _, _, _, _, _⟩ :: _) _ _); first | (refine wpList_skip (by rfl) ?_; (try simp only [Act.put, List.setIfInBounds_toArray, List.set_cons_zero, List.set_cons_succ])) | (refine wl_store (by rfl) hm (by with_reducible first | exact at0 | exact at1 | exact at2) rfl rfl (by first | rfl | exact idV_eq _ | exact labV_eq _ _ | exact rectV_eq _ _ _ _) (by (try simp only [rowOf_size]); first | exact sizeLabel) (by first | simp only [rowOf_size] | rfl) (by first | rfl | (simp only [List.size_toArray, List.length_cons, List.all_toArray', List.all_cons, List.all_nil, Value.oneCell', Bool.and_true, Bool.and_self]; done) | (simp [Value.oneCell']; done) | exact rowOf_one _ _ (fun _ _ => rfl) | exact idC_one _ | (exact rowOf_one _ _ (by intro i _; repeat (first | rfl | split)))) ?_; clear hm; intro w1 hm; (try simp only [Act.put, List.setIfInBounds_toArray, List.set_cons_zero, List.set_cons_succ]); (try simp only [rowOf_set, List.setIfInBounds_toArray, List.set_cons_zero, List.set_cons_succ, Value.cells, Act.eval, Array.getD_eq_getD_getElem?, List.getElem?_toArray, List.getElem?_cons_zero, List.getElem?_cons_succ, Option.getD_some] at hm)) | (refine wl_storeCell (by rfl) hm (by with_reducible first | exact at0 | exact at1 | exact at2) rfl rfl (by rfl) (by first | exact sizeInt | exact sizeU64) (by first | decide | (simp; done)) ?_; clear hm; intro w1 hm; (try simp only [Act.put, List.setIfInBounds_toArray, List.set_cons_zero, List.set_cons_succ]); (try simp only [rowOf_set, List.setIfInBounds_toArray, List.set_cons_zero, List.set_cons_succ, Value.cells, Act.eval, Array.getD_eq_getD_getElem?, List.getElem?_toArray, List.getElem?_cons_zero, List.getElem?_cons_succ, Option.getD_some] at hm))) | ((with_reducible show wpList _ _ _ (⟨_, .alloc _, _, _, _, _⟩ :: _) _ _); refine wl_alloc (by rfl) (by first | exact zeroLabel) (by rfl) hm ?_; clear hm; intro b1 w1 hm; (try simp only [Act.put, List.setIfInBounds_toArray, List.set_cons_zero, List.set_cons_succ]); (try simp only [rowOf_set, List.setIfInBounds_toArray, List.set_cons_zero, List.set_cons_succ, Value.cells, Act.eval, Array.getD_eq_getD_getElem?, List.getElem?_toArray, List.getElem?_cons_zero, List.getElem?_cons_succ, Option.getD_some] at hm)) | ((with_reducible show wpList _ _ _ (⟨_, .box _ _, _, _, _, _⟩ :: _) _ _); refine wl_box (by rfl) rfl (by first | exact idV_cells _ | exact labV_cells _ _ | exact rectV_cells _ _ _ _ | rfl) hm ?_; clear hm; intro b1 w1 hm; (try simp only [Act.put, List.setIfInBounds_toArray, List.set_cons_zero, List.set_cons_succ])) | ((with_reducible show wpList _ _ _ (⟨_, .build _ _, _, _, _, _⟩ :: _) _ _); first | (refine wpList_skip (by rfl) ?_; (try simp only [Act.put, List.setIfInBounds_toArray, List.set_cons_zero, List.set_cons_succ]))) | ((with_reducible show wpList _ _ _ (⟨_, .buildSlice _ _ _, _, _, _, _⟩ :: _) _ _); first | (refine wpList_skip (by rfl) ?_; (try simp only [Act.put, List.setIfInBounds_toArray, List.set_cons_zero, List.set_cons_succ]))) | ((with_reducible show wpList _ _ _ (⟨_, .makeSlice _ _ _, _, _, _, _⟩ :: _) _ _); first | (refine wpList_skip (by rfl) ?_; (try simp only [Act.put, List.setIfInBounds_toArray, List.set_cons_zero, List.set_cons_succ]))) | ((with_reducible show wpList _ _ _ (⟨_, .call ⟨.builtin .append, _, _⟩, _, _, _, _⟩ :: _) _ _); first | (refine wpList_skip (by rfl) ?_; (try simp only [Act.put, List.setIfInBounds_toArray, List.set_cons_zero, List.set_cons_succ]))) | ((with_reducible show wpList _ _ _ (⟨_, .call ⟨.builtin .copy, _, _⟩, _, _, _, _⟩ :: _) _ _); first | (refine wpList_skip (by rfl) ?_; (try simp only [Act.put, List.setIfInBounds_toArray, List.set_cons_zero, List.set_cons_succ]))) | (go_at_call 16; refine (named_c _).mono ?_; rintro e w1 ⟨rfl, hx⟩; replace hm := hm.call hx; clear hx) | (go_at_call 26; refine (hS _).mono ?_; rintro e w1 ⟨rfl, hx⟩; replace hm := hm.call hx; clear hx) | (go_at_call 26; refine (hS2 _).mono ?_; rintro e w1 ⟨rfl, hx⟩; replace hm := hm.call hx; clear hx) | (go_at_call 33; refine (hW _).mono ?_; rintro e w1 ⟨rfl, hx⟩; replace hm := hm.call hx; clear hx) | (go_at_call 33; refine (hW2 _).mono ?_; rintro e w1 ⟨rfl, hx⟩; replace hm := hm.call hx; clear hx) | (go_at_call 34; refine (hV _).mono ?_; rintro e w1 ⟨rfl, hx⟩; replace hm := hm.call hx; clear hx))
  go_ret
  exact ⟨rfl, hm.ext⟩
theorem walk_one (len : Int) (b : Nat) (len' : Int) (b' : Nat) (key : Int) (x y : Int) (hw : withinM len b len' b' = false) (hb : b < 2 ^ 64) (hb' : b' < 2 ^ 64)
    (hS : Says 26 #[labV len b] (.tuple #[.int .u64 x, .int .u64 y, .int .i64 0])) (hS2 : Says 26 #[labV len' b'] (.tuple #[.int .u64 0, .int .u64 0, .int .i64 1])) (w : World) :
    Calls Try.prog 5 #[labV len b, labV len' b', .int .u64 key] w fun e w' => e = .returned (.bool true) ∧ Ext w w' := by
  have hW := within_c len b len' b' hb hb'
  rw [hw] at hW
  have hW2 := hW
  have hV : True := trivial
  go_enter Try.func5, Try.ntmps5
  have hm := Mem.refl w []
  go_wp2_with (first | ((with_reducible show wpList _ _ _ (⟨_, .load _ _, _, _, _, _⟩ :: _) _ _); first | (refine wpList_skip (by rfl) ?_; (try simp only [Act.put, List.setIfInBounds_toArray, List.set_cons_zero, List.set_cons_succ])) | (refine wl_load (by rfl) hm (by with_reducible first | exact at0 | exact at1 | exact at2) rfl (by first | exact undLabel) (by rfl) (by (try simp only [rowOf_size]); first | exact sizeLabel) ?_; (try simp only [Act.put, List.setIfInBounds_toArray, List.set_cons_zero, List.set_cons_succ]); (try simp only [← labV_eq])) | (refine wl_loadCell (by rfl) hm (by with_reducible first | exact at0 | exact at1 | exact at2) rfl (by rfl) (by first | exact undInt | exact undU64) (by rfl) ?_; (try simp only [List.getElem_toArray, List.getElem_cons_zero, List.getElem_cons_succ, Act.put, List.setIfInBounds_toArray, List.set_cons_zero, List.set_cons_succ]))) | ((with_reducible show wpList _ _ _ (⟨_, .store _ _ _, _, _, _, _⟩ :: _) _ _); first | (refine wpList_skip (by rfl) ?_; (try simp only [Act.put, List.setIfInBounds_toArray, List.set_cons_zero, List.set_cons_succ])) | (refine wl_store (by rfl) hm (by with_reducible first | exact at0 | exact at1 | exact at2) rfl rfl (by first | rfl | exact idV_eq _ | exact labV_eq _ _ | exact rectV_eq _ _ _ _) (by (try simp only [rowOf_size]); first | exact sizeLabel) (by first | simp only [rowOf_size] | rfl) (by first | rfl | (simp only [List.size_toArray, List.length_cons, List.all_toArray', List.all_cons, List.all_nil, Value.oneCell', Bool.and_true, Bool.and_self]; done) | (simp [Value.oneCell']; done) | exact rowOf_one _ _ (fun _ _ => rfl) | exact idC_one _ | (exact rowOf_one _ _ (by intro i _; repeat (first | rfl | split)))) ?_; clear hm; intro w1 hm; (try simp only [Act.put, List.setIfInBounds_toArray, List.set_cons_zero, List.set_cons_succ]); (try simp only [rowOf_set, List.setIfInBounds_toArray, List.set_cons_zero, List.set_cons_succ, Value.cells, Act.eval, Array.getD_eq_getD_getElem?, List.getElem?_toArray, List.getElem?_cons_zero, List.getElem?_cons_succ, Option.getD_some] at hm)) | (refine wl_storeCell (by rfl) hm (by with_reducible first | exact at0 | exact at1 | exact at2) rfl rfl (by rfl) (by first | exact sizeInt | exact sizeU64) (by first | decide | (simp; done)) ?_; clear hm; intro w1 hm; (try simp only [Act.put, List.setIfInBounds_toArray, List.set_cons_zero, List.set_cons_succ]); (try simp only [rowOf_set, List.setIfInBounds_toArray, List.set_cons_zero, List.set_cons_succ, Value.cells, Act.eval, Array.getD_eq_getD_getElem?, List.getElem?_toArray, List.getElem?_cons_zero, List.getElem?_cons_succ, Option.getD_some] at hm))) | ((with_reducible show wpList _ _ _ (⟨_, .alloc _, _, _, _, _⟩ :: _) _ _); refine wl_alloc (by rfl) (by first | exact zeroLabel) (by rfl) hm ?_; clear hm; intro b1 w1 hm; (try simp only [Act.put, List.setIfInBounds_toArray, List.set_cons_zero, List.set_cons_succ]); (try simp only [rowOf_set, List.setIfInBounds_toArray, List.set_cons_zero, List.set_cons_succ, Value.cells, Act.eval, Array.getD_eq_getD_getElem?, List.getElem?_toArray, List.getElem?_cons_zero, List.getElem?_cons_succ, Option.getD_some] at hm)) | ((with_reducible show wpList _ _ _ (⟨_, .box _ _, _, _, _, _⟩ :: _) _ _); refine wl_box (by rfl) rfl (by first | exact idV_cells _ | exact labV_cells _ _ | exact rectV_cells _ _ _ _ | rfl) hm ?_; clear hm; intro b1 w1 hm; (try simp only [Act.put, List.setIfInBounds_toArray, List.set_cons_zero, List.set_cons_succ])) | ((with_reducible show wpList _ _ _ (⟨_, .build _ _, _, _, _, _⟩ :: _) _ _); first | (refine wpList_skip (by rfl) ?_; (try simp only [Act.put, List.setIfInBounds_toArray, List.set_cons_zero, List.set_cons_succ]))) | ((with_reducible show wpList _ _ _ (⟨_, .buildSlice _ _ _, _, _, _, _⟩ :: _) _ _); first | (refine wpList_skip (by rfl) ?_; (try simp only [Act.put, List.setIfInBounds_toArray, List.set_cons_zero, List.set_cons_succ]))) | ((with_reducible show wpList _ _ _ (⟨_, .makeSlice _ _ _, _, _, _, _⟩ :: _) _ _); first | (refine wpList_skip (by rfl) ?_; (try simp only [Act.put, List.setIfInBounds_toArray, List.set_cons_zero, List.set_cons_succ]))) | ((with_reducible show wpList _ _ _ (⟨_, .call ⟨.builtin .append, _, _⟩, _, _, _, _⟩ :: _) _ _); first | (refine wpList_skip (by rfl) ?_; (try simp only [Act.put, List.setIfInBounds_toArray, List.set_cons_zero, List.set_cons_succ]))) | ((with_reducible show wpList _ _ _ (⟨_, .call ⟨.builtin .copy, _, _⟩, _, _, _, _⟩ :: _) _ _); first | (refine wpList_skip (by rfl) ?_; (try simp only [Act.put, List.setIfInBounds_toArray, List.set_cons_zero, List.set_cons_succ]))) | (go_at_call 16; refine (named_c _).mono ?_; rintro e w1 ⟨rfl, hx⟩; replace hm := hm.call hx; clear hx) | (go_at_call 26; refine (hS _).mono ?_; rintro e w1 ⟨rfl, hx⟩; replace hm := hm.call hx; clear hx) | (go_at_call 26; refine (hS2 _).mono ?_; rintro e w1 ⟨rfl, hx⟩; replace hm := hm.call hx; clear hx) | (go_at_call 33; refine (hW _).mono ?_; rintro e w1 ⟨rfl, hx⟩; replace hm := hm.call hx; clear hx) | (go_at_call 33; refine (hW2 _).mono ?_; rintro e w1 ⟨rfl, hx⟩; replace hm := hm.call hx; clear hx) | (go_at_call 34; refine (hV _).mono ?_; rintro e w1 ⟨rfl, hx⟩; replace hm := hm.call hx; clear hx))
  go_ret
  exact ⟨rfl, hm.ext⟩

theorem seven (p : Bool → Bool → Bool → Bool → Bool → Bool → Prop) (h1 : ∀ r2 r4, p false r2 false r4 false false) (h2 : ∀ r2, p false r2 true false false false) (h3 : ∀ r4, p true false false r4 false false) (h4 : p true false true false false false)
    (h5 : ∀ r4, p true true false r4 false true) (h6 : p true true true false false true) (h7 : ∀ v2, p true true true true true v2) (r1 r2 r3 r4 v1 v2 : Bool) (g1 : (r1 && r2) = (v1 || v2)) (g2 : v1 = (r3 && r4)) : p r1 r2 r3 r4 v1 v2 := by
  subst g2
  cases r1 <;> cases r3 <;> simp at g1 ⊢
  · subst g1; exact h1 _ _
  · obtain ⟨rfl, rfl⟩ := g1; exact h2 _
  · subst g1
    cases r2
    · exact h3 _
    · exact h5 _
  · cases r4
    · simp at g1
      subst g1
      cases r2
      · exact h4
      · exact h6
    · simp at g1
      subst g1
      exact h7 _
/-- Both labels right: lo, hi their spans. -/
theorem walk_two (n b k c key hi hi' : Nat) (r5 r6 : Bool) (q5 : decide (b ≤ key) = r5) (q6 : decide (key ≤ hi) = r6)
    (hS : Says 26 #[labV (n : Int) b] (.tuple #[.int .u64 (b : Int), .int .u64 (hi : Int), .int .i64 0])) (hS2 : Says 26 #[labV (k : Int) c] (.tuple #[.int .u64 (c : Int), .int .u64 (hi' : Int), .int .i64 0]))
    (hV : Says 34 #[labV (n : Int) b, .int .u64 (key : Int)] (.bool (r5 && r6))) (w : World) (r1 r2 r3 r4 v1 v2 : Bool) (g1 : (r1 && r2) = (v1 || v2)) (g2 : v1 = (r3 && r4)) :
    decide (b ≤ hi') = r1 → decide (c ≤ hi) = r2 → decide (c ≤ b) = r3 → decide (hi ≤ hi') = r4 → Says 33 #[labV (n : Int) b, labV (k : Int) c] (.bool v1) → Says 33 #[labV (k : Int) c, labV (n : Int) b] (.bool v2) →
    Calls Try.prog 5 #[labV (n : Int) b, labV (k : Int) c, .int .u64 (key : Int)] w fun e w' => e = .returned (.bool true) ∧ Ext w w' := by
  refine seven (fun r1 r2 r3 r4 v1 v2 => decide (b ≤ hi') = r1 → decide (c ≤ hi) = r2 → decide (c ≤ b) = r3 → decide (hi ≤ hi') = r4 → Says 33 #[labV (n : Int) b, labV (k : Int) c] (.bool v1) → Says 33 #[labV (k : Int) c, labV (n : Int) b] (.bool v2) →
    Calls Try.prog 5 #[labV (n : Int) b, labV (k : Int) c, .int .u64 (key : Int)] w fun e w' => e = .returned (.bool true) ∧ Ext w w') ?_ ?_ ?_ ?_ ?_ ?_ ?_ r1 r2 r3 r4 v1 v2 g1 g2
  all_goals intros
  all_goals rename_i q1 q2 q3 q4 hW hW2
  all_goals cases r5
  all_goals
    go_enter Try.func5, Try.ntmps5
    have hm := Mem.refl w []
    go_wp2_with (first | ((with_reducible show wpList _ _ _ (⟨_, .load _ _, _, _, _, _⟩ :: _) _ _); first | (refine wpList_skip (by rfl) ?_; (try simp only [Act.put, List.setIfInBounds_toArray, List.set_cons_zero, List.set_cons_succ])) | (refine wl_load (by rfl) hm (by with_reducible first | exact at0 | exact at1 | exact at2) rfl (by first | exact undLabel) (by rfl) (by (try simp only [rowOf_size]); first | exact sizeLabel) ?_; (try simp only [Act.put, List.setIfInBounds_toArray, List.set_cons_zero, List.set_cons_succ]); (try simp only [← labV_eq])) | (refine wl_loadCell (by rfl) hm (by with_reducible first | exact at0 | exact at1 | exact at2) rfl (by rfl) (by first | exact undInt | exact undU64) (by rfl) ?_; (try simp only [List.getElem_toArray, List.getElem_cons_zero, List.getElem_cons_succ, Act.put, List.setIfInBounds_toArray, List.set_cons_zero, List.set_cons_succ]))) | ((with_reducible show wpList _ _ _ (⟨_, .store _ _ _, _, _, _, _⟩ :: _) _ _); first | (refine wpList_skip (by rfl) ?_; (try simp only [Act.put, List.setIfInBounds_toArray, List.set_cons_zero, List.set_cons_succ])) | (refine wl_store (by rfl) hm (by with_reducible first | exact at0 | exact at1 | exact at2) rfl rfl (by first | rfl | exact idV_eq _ | exact labV_eq _ _ | exact rectV_eq _ _ _ _) (by (try simp only [rowOf_size]); first | exact sizeLabel) (by first | simp only [rowOf_size] | rfl) (by first | rfl | (simp only [List.size_toArray, List.length_cons, List.all_toArray', List.all_cons, List.all_nil, Value.oneCell', Bool.and_true, Bool.and_self]; done) | (simp [Value.oneCell']; done) | exact rowOf_one _ _ (fun _ _ => rfl) | exact idC_one _ | (exact rowOf_one _ _ (by intro i _; repeat (first | rfl | split)))) ?_; clear hm; intro w1 hm; (try simp only [Act.put, List.setIfInBounds_toArray, List.set_cons_zero, List.set_cons_succ]); (try simp only [rowOf_set, List.setIfInBounds_toArray, List.set_cons_zero, List.set_cons_succ, Value.cells, Act.eval, Array.getD_eq_getD_getElem?, List.getElem?_toArray, List.getElem?_cons_zero, List.getElem?_cons_succ, Option.getD_some] at hm)) | (refine wl_storeCell (by rfl) hm (by with_reducible first | exact at0 | exact at1 | exact at2) rfl rfl (by rfl) (by first | exact sizeInt | exact sizeU64) (by first | decide | (simp; done)) ?_; clear hm; intro w1 hm; (try simp only [Act.put, List.setIfInBounds_toArray, List.set_cons_zero, List.set_cons_succ]); (try simp only [rowOf_set, List.setIfInBounds_toArray, List.set_cons_zero, List.set_cons_succ, Value.cells, Act.eval, Array.getD_eq_getD_getElem?, List.getElem?_toArray, List.getElem?_cons_zero, List.getElem?_cons_succ, Option.getD_some] at hm))) | ((with_reducible show wpList _ _ _ (⟨_, .alloc _, _, _, _, _⟩ :: _) _ _); refine wl_alloc (by rfl) (by first | exact zeroLabel) (by rfl) hm ?_; clear hm; intro b1 w1 hm; (try simp only [Act.put, List.setIfInBounds_toArray, List.set_cons_zero, List.set_cons_succ]); (try simp only [rowOf_set, List.setIfInBounds_toArray, List.set_cons_zero, List.set_cons_succ, Value.cells, Act.eval, Array.getD_eq_getD_getElem?, List.getElem?_toArray, List.getElem?_cons_zero, List.getElem?_cons_succ, Option.getD_some] at hm)) | ((with_reducible show wpList _ _ _ (⟨_, .box _ _, _, _, _, _⟩ :: _) _ _); refine wl_box (by rfl) rfl (by first | exact idV_cells _ | exact labV_cells _ _ | exact rectV_cells _ _ _ _ | rfl) hm ?_; clear hm; intro b1 w1 hm; (try simp only [Act.put, List.setIfInBounds_toArray, List.set_cons_zero, List.set_cons_succ])) | ((with_reducible show wpList _ _ _ (⟨_, .build _ _, _, _, _, _⟩ :: _) _ _); first | (refine wpList_skip (by rfl) ?_; (try simp only [Act.put, List.setIfInBounds_toArray, List.set_cons_zero, List.set_cons_succ]))) | ((with_reducible show wpList _ _ _ (⟨_, .buildSlice _ _ _, _, _, _, _⟩ :: _) _ _); first | (refine wpList_skip (by rfl) ?_; (try simp only [Act.put, List.setIfInBounds_toArray, List.set_cons_zero, List.set_cons_succ]))) | ((with_reducible show wpList _ _ _ (⟨_, .makeSlice _ _ _, _, _, _, _⟩ :: _) _ _); first | (refine wpList_skip (by rfl) ?_; (try simp only [Act.put, List.setIfInBounds_toArray, List.set_cons_zero, List.set_cons_succ]))) | ((with_reducible show wpList _ _ _ (⟨_, .call ⟨.builtin .append, _, _⟩, _, _, _, _⟩ :: _) _ _); first | (refine wpList_skip (by rfl) ?_; (try simp only [Act.put, List.setIfInBounds_toArray, List.set_cons_zero, List.set_cons_succ]))) | ((with_reducible show wpList _ _ _ (⟨_, .call ⟨.builtin .copy, _, _⟩, _, _, _, _⟩ :: _) _ _); first | (refine wpList_skip (by rfl) ?_; (try simp only [Act.put, List.setIfInBounds_toArray, List.set_cons_zero, List.set_cons_succ]))) | (go_at_call 16; refine (named_c _).mono ?_; rintro e w1 ⟨rfl, hx⟩; replace hm := hm.call hx; clear hx) | (go_at_call 26; refine (hS _).mono ?_; rintro e w1 ⟨rfl, hx⟩; replace hm := hm.call hx; clear hx) | (go_at_call 26; refine (hS2 _).mono ?_; rintro e w1 ⟨rfl, hx⟩; replace hm := hm.call hx; clear hx) | (go_at_call 33; refine (hW _).mono ?_; rintro e w1 ⟨rfl, hx⟩; replace hm := hm.call hx; clear hx) | (go_at_call 33; refine (hW2 _).mono ?_; rintro e w1 ⟨rfl, hx⟩; replace hm := hm.call hx; clear hx) | (go_at_call 34; refine (hV _).mono ?_; rintro e w1 ⟨rfl, hx⟩; replace hm := hm.call hx; clear hx))
    go_ret
    exact ⟨by first | rfl | simp, hm.ext⟩

theorem walk (len : Int) (b : Nat) (wl : b < 2 ^ 64 ∧ (Lit.int .i64 len).wf = true) (len' : Int) (b' : Nat) (wl' : b' < 2 ^ 64 ∧ (Lit.int .i64 len').wf = true) (key : Int) (wk : (Lit.int .u64 key).wf = true) (w : World) :
    Calls Try.prog 5 #[labV len b, labV len' b', .int .u64 key] w fun e w' => e = .returned (.bool true) ∧ Ext w w' := by
  obtain ⟨key, rfl, hk⟩ := nat_u64 key wk
  have hb := wl.1
  have hb' := wl'.1
  cases hl : isL len b with
  | false =>
    have hw : withinM len b len' b' = false := by unfold withinM; rw [hl, Bool.false_and]
    have hS : Says 26 _ _ := span_false len b hl hb
    have hV : Says 34 _ _ := covers_false len b key hl hb
    cases hl' : isL len' b' with
    | false => exact walk_no len b len' b' key 0 0 _ _ _ false hw hb hb' hS (span_false len' b' hl' hb') hV w
    | true =>
      obtain ⟨k, rfl, hk', _⟩ := isL_nat len' b' hl'
      exact walk_no len b k b' key 0 0 _ _ _ false hw hb hb' hS (span_true k b' hl' hb' hk') hV w
  | true =>
    obtain ⟨n, rfl, hn, _⟩ := isL_nat len b hl
    have hS : Says 26 _ _ := span_true n b hl hb hn
    cases hl' : isL len' b' with
    | false =>
      have hw : withinM n b len' b' = false := by unfold withinM; rw [hl', Bool.false_and, Bool.and_false, Bool.and_false]
      exact walk_one n b len' b' key _ _ hw hb hb' hS (span_false len' b' hl' hb') w
    | true =>
      obtain ⟨k, rfl, hk', _⟩ := isL_nat len' b' hl'
      have hV : Says 34 _ _ := covers_true n b key hl hb hk hn
      rw [cov_range n b key (isL_mod n b hl)] at hV
      exact walk_two n b k b' key _ _ _ _ rfl rfl hS (span_true k b' hl' hb' hk') hV w _ _ _ _ _ _ (meets_range n b k b' hl hl' hn hk') (within_range n b k b' hl hl' hn hk') rfl rfl rfl rfl (within_c n b k b' hb hb') (within_c k b' n b hb' hb)

set_option maxRecDepth 100000 in
theorem lifted (os : Os) (started : os.Started) (H : Type) (enc : TypeId × Value → H) :
    ReturnsInHanded {} Try.checked os 5 .any (Rows.labelMeetsSpec.pre6 enc Try.prog Try.f5 Rows.labelMeetsRow.domain false) (Rows.labelMeetsSpec.post enc Try.prog Try.f5 false true false false) := by
  refine returnsInHanded_of_change (C := Try.checked) own started (by kernel_rfl) Try.func5
    (ChangeSpec.witness6 (enc := enc) (C := Try.checked) false ⟨#[], #[.agg #[.int .i64 0, .int .u64 0], .agg #[.int .i64 0, .int .u64 0], .int .u64 0], []⟩ 8 (by kernel_rfl) (by kernel_rfl) (by kernel_rfl) (by kernel_rfl)) ?_
  intro W base args ds gs before hval0 hW hcnd _
  have hval : ∀ (j : Nat) t v, Try.f5.params[j]? = some t → args[j]? = some v → Value.okWide Try.prog W .any base t v := hval0
  have hW' := hW
  obtain ⟨p, q, hA0, hV, rfl, hfz, hnd⟩ := hW
  have hA : DataW.TrodAll enc Try.prog W 0 (fun _ => true) true Try.f5.params.toList args.toList ds p := hA0
  rw [Try.params5] at hA hval
  obtain ⟨v0, vs0, d0, ds0, p0, q0, hargs, rfl, rfl, h0, r0⟩ := trodAll_cons hA
  obtain ⟨v1, vs1, d1, ds1, p1, q1, rfl, rfl, rfl, h1, r1⟩ := trodAll_cons r0
  obtain ⟨v2, vs2, d2, ds2, p2, q2, rfl, rfl, rfl, h2, r2⟩ := trodAll_cons r1
  obtain ⟨rfl, rfl, rfl⟩ := trodAll_nil r2
  obtain rfl : args = #[v0, v1, v2] := by cases args; simp_all
  obtain ⟨rfl, rfl⟩ := trodVars_none hV
  have k0 := h0
  have lt0 : ∀ x ∈ p0, x.block < W.heap.size := by obtain ⟨m, hm⟩ := k0; exact DataW.trod_lt m _ _ _ hm
  have k1 := h1
  have lt1 : ∀ x ∈ p1, x.block < W.heap.size := by obtain ⟨m, hm⟩ := k1; exact DataW.trod_lt m _ _ _ hm
  have k2 := h2
  have lt2 : ∀ x ∈ p2, x.block < W.heap.size := by obtain ⟨m, hm⟩ := k2; exact DataW.trod_lt m _ _ _ hm
  obtain ⟨a0, b0, rfl, w0⟩ := open_label (hval 0 24 v0 rfl rfl) h0
  obtain ⟨a1, b1, rfl, w1⟩ := open_label (hval 1 24 v1 rfl rfl) h1
  obtain ⟨a2, rfl, _, _, w2⟩ := open_int Try.underlying22 (hval 2 22 v2 rfl rfl) h2
  clear hA0 hval0
  refine (walk a0 b0 w0 a1 b1 w1 a2 w2 W).mono fun e W' ⟨he, ext⟩ => ?_
  subst he
  have bel := ext.below
  exact ⟨_, rfl, _, _, _, [], _, [], hW', trodAll_mk1 (shut_bool Try.underlying4 _), (trodAll_cons_mk (Below.trod laidOut (by kernel_rfl) (of_decide_eq_true (by kernel_rfl)) k0 bel lt0) (trodAll_cons_mk (Below.trod laidOut (by kernel_rfl) (of_decide_eq_true (by kernel_rfl)) k1 bel lt1) (trodAll_cons_mk (Below.trod laidOut (by kernel_rfl) (of_decide_eq_true (by kernel_rfl)) k2 bel lt2) trodAll_mk0))), rfl, bel.frame _, fun h => by cases h⟩

theorem over : Rows.labelMeetsRow.holds Try.pinned (OpenSpec.ofChange Rows.labelMeetsSpec) :=
  OpenClaim.holds_of_wide 5 Try.f5 rfl rfl rfl rfl rfl rfl rfl ⟨rfl, rfl, rfl, rfl, rfl⟩ rfl rfl rfl rfl rfl (by kernel_rfl) Try.func5 (by kernel_rfl)
    (of_decide_eq_true (by kernel_rfl)) (by unfold Func.isWrapper; first | (rw [if_pos (by decide +kernel)]; kernel_rfl) | (rw [if_neg (by decide +kernel)]; exact ⟨rfl, rfl⟩))
    (fun os started H enc _ => lifted os started H enc)

theorem proved : Rows.LabelMeetsSaid := over
#print axioms proved
end Go.Proofs.Ytdlfgoiakkkilaa.lawLMeets
