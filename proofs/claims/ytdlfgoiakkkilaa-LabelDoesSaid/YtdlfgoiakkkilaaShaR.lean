/-
  Sums: the document's step of a block.
-/
import Derived.Test.YtdlfgoiakkkilaaShaN
namespace Go.Proofs.Ytdlfgoiakkkilaa
open Go.RowKit
set_option linter.unusedSimpArgs false
set_option linter.unusedVariables false
set_option maxHeartbeats 1000000
set_option maxRecDepth 20000
attribute [local irreducible] wpQuiet wpList wpAnyH Calls

theorem built_stateR : Try.prog.built 52 [] = some #[.int .u32 0, .int .u32 0, .int .u32 0, .int .u32 0, .int .u32 0] := by kernel_rfl
theorem refStep_bad (s : St) (x : ByteArray) (h : x.size ≠ 64) (h1 : x.size < 2 ^ 62) (w : World) :
    Calls Try.prog 45 #[s.val, .string x] w fun e w' => e = .returned (.tuple #[stV 0 0 0 0 0, .int .i64 1]) ∧ Ext w w' := by
  rw [St.val_eq]
  have hc := refWords_bad x h h1
  have built_state0 := built_stateR
  go_enter Try.func45, Try.ntmps45
  have hm := Mem.refl w []
  go_wp2_with ((first | refine wpList_skip (by rfl) ?_ | (refine wlL (hm := hm) (hu := by first | exact undState) (hi := by (try simp only [rowOf_size]); first | exact sizeState) (h := ?_); (try simp only [Act.put, k1, k2, k3]); (try simp only [← idV_eq])) | refine wlLC (hm := hm) (hv := by first | exact hcell.out | rfl) (hu := by first | exact undU32) (h := ?_) | (refine wlS (hm := hm) (hv := (by first | rfl | exact idV_eq _ | exact labV_eq _ _ | exact rectV_eq _ _ _ _)) (hi := by (try simp only [rowOf_size]); first | exact sizeState) (hs := by first | (simp only [rowOf_size]; done) | rfl) (h := ?_); clear hm; intro w1 hm; (try simp only [rowOf_set, k1, k2, k3, Value.cells, Act.eval, k7, k8, k9, kA, Option.getD_some] at hm)) | (refine wlSC (hm := hm) (hi := by first | exact sizeU32) (ho := by first | decide | (simp only [rowOf_size]; omega) | (simp; done)) (h := ?_); clear hm; intro w1 hm; (try simp only [rowOf_set, k1, k2, k3, Value.cells, Act.eval, k7, k8, k9, kA, Option.getD_some] at hm)) | (refine wlA (hz := by first | exact zeroState) (hm := hm) (h := ?_); clear hm; intro b1 w1 hm; (try simp only [rowOf_set, k1, k2, k3, Value.cells, Act.eval, k7, k8, k9, kA, Option.getD_some] at hm)) | (refine wl_box (by rfl) rfl (by first | exact idV_cells _ | exact labV_cells _ _ | exact rectV_cells _ _ _ _ | rfl) hm ?_; clear hm; intro b1 w1 hm) | (refine wl_build (by rfl) (built_state _ _ _ _ _) rfl ?_; (try simp only [Act.put, k1, k2, k3]); (try simp only [← idV_eq])) | (refine wl_build (by rfl) (built_state0) rfl ?_; (try simp only [Act.put, k1, k2, k3]); (try simp only [← idV_eq])) | (with_reducible first | refine stBs ?_ | refine stMs ?_ | refine stAp ?_ | refine stCo ?_)); (try simp only [k4, k5, k6, Act.put, k1, k2, k3]))
  refine (hc _).mono ?_
  rintro e w2 ⟨rfl, hx⟩
  replace hm := hm.call hx
  clear hx
  go_wp2_with ((first | refine wpList_skip (by rfl) ?_ | (refine wlL (hm := hm) (hu := by first | exact undState) (hi := by (try simp only [rowOf_size]); first | exact sizeState) (h := ?_); (try simp only [Act.put, k1, k2, k3]); (try simp only [← idV_eq])) | refine wlLC (hm := hm) (hv := by first | exact hcell.out | rfl) (hu := by first | exact undU32) (h := ?_) | (refine wlS (hm := hm) (hv := (by first | rfl | exact idV_eq _ | exact labV_eq _ _ | exact rectV_eq _ _ _ _)) (hi := by (try simp only [rowOf_size]); first | exact sizeState) (hs := by first | (simp only [rowOf_size]; done) | rfl) (h := ?_); clear hm; intro w1 hm; (try simp only [rowOf_set, k1, k2, k3, Value.cells, Act.eval, k7, k8, k9, kA, Option.getD_some] at hm)) | (refine wlSC (hm := hm) (hi := by first | exact sizeU32) (ho := by first | decide | (simp only [rowOf_size]; omega) | (simp; done)) (h := ?_); clear hm; intro w1 hm; (try simp only [rowOf_set, k1, k2, k3, Value.cells, Act.eval, k7, k8, k9, kA, Option.getD_some] at hm)) | (refine wlA (hz := by first | exact zeroState) (hm := hm) (h := ?_); clear hm; intro b1 w1 hm; (try simp only [rowOf_set, k1, k2, k3, Value.cells, Act.eval, k7, k8, k9, kA, Option.getD_some] at hm)) | (refine wl_box (by rfl) rfl (by first | exact idV_cells _ | exact labV_cells _ _ | exact rectV_cells _ _ _ _ | rfl) hm ?_; clear hm; intro b1 w1 hm) | (refine wl_build (by rfl) (built_state _ _ _ _ _) rfl ?_; (try simp only [Act.put, k1, k2, k3]); (try simp only [← idV_eq])) | (refine wl_build (by rfl) (built_state0) rfl ?_; (try simp only [Act.put, k1, k2, k3]); (try simp only [← idV_eq])) | (with_reducible first | refine stBs ?_ | refine stMs ?_ | refine stAp ?_ | refine stCo ?_)); (try simp only [k4, k5, k6, Act.put, k1, k2, k3]))
  refine bodyPost_ret (results_row_tmp (h := rfl) _ _ _ _ _ _ _ rfl (hm.heap (i := 0) rfl) undState rfl (by first | exact sizeState | (simp only [rowOf_size]; exact sizeState))) rfl ?_
  exact ⟨by simp only [stV_eq]; try rfl, hm.ext⟩
theorem plus_facts (s v R : St) (h : s.plus v = R) : IntKind.u32.wrap ((s.a : Int) + (v.a : Int)) = (R.a : Int) ∧ IntKind.u32.wrap ((s.b : Int) + (v.b : Int)) = (R.b : Int) ∧ IntKind.u32.wrap ((s.c : Int) + (v.c : Int)) = (R.c : Int) ∧ IntKind.u32.wrap ((s.d : Int) + (v.d : Int)) = (R.d : Int) ∧ IntKind.u32.wrap ((s.e : Int) + (v.e : Int)) = (R.e : Int) := by
  subst h
  simp only [St.plus]
  exact ⟨wrap_add32 _ _, wrap_add32 _ _, wrap_add32 _ _, wrap_add32 _ _, wrap_add32 _ _⟩
theorem refStep_ok (s : St) (hs : s.ok) (f : Nat → Nat) (hf : ∀ j, j < 64 → f j < 256) (w : World) :
    Calls Try.prog 45 #[s.val, .string (bytesB 64 f)] w fun e w' => e = .returned (.tuple #[(stepM f s).val, .int .i64 0]) ∧ Ext w w' := by
  rw [St.val_eq]
  have hc := refWords_ok f hf
  have built_state0 := built_stateR
  obtain ⟨v, hv⟩ : ∃ v, s.turns (wd f) 80 = v := ⟨_, rfl⟩
  have hR : stepM f s = s.plus v := by rw [← hv, stepM]
  rw [hR]
  clear hR
  have HV := hid hv
  clear hv
  obtain ⟨R, hR⟩ : ∃ R, s.plus v = R := ⟨_, rfl⟩
  obtain ⟨f1, f2, f3, f4, f5⟩ := plus_facts s v R hR
  rw [hR, St.val_eq]
  clear hR
  have F1 := hid f1
  have F2 := hid f2
  have F3 := hid f3
  have F4 := hid f4
  have F5 := hid f5
  clear f1 f2 f3 f4 f5
  go_enter Try.func45, Try.ntmps45
  have hm := Mem.refl w []
  go_wp2_with (with_reducible first | refine stAl ?_ | refine stBo ?_ | refine stLo ?_ | refine stSo ?_ | refine stBu ?_ | refine stBs ?_ | refine stMs ?_ | refine stAp ?_ | refine stCo ?_); refine Stop.go (wl_box (by rfl) rfl (rfl) hm ?_); clear hm; intro b2 w1 hm; simp only [Act.put, k1, k2, k3]; (try simp only [rowOf_set, k1, k2, k3, Value.cells, Act.eval, k7, k8, k9, kA, Option.getD_some] at hm)
  go_wp2_with ((first | refine wpList_skip (by rfl) ?_ | (refine wlL (hm := hm) (hu := by first | exact undState) (hi := by (try simp only [rowOf_size]); first | exact sizeState) (h := ?_); (try simp only [Act.put, k1, k2, k3]); (try simp only [← idV_eq])) | refine wlLC (hm := hm) (hv := by first | exact hcell.out | rfl) (hu := by first | exact undU32) (h := ?_) | (refine wlS (hm := hm) (hv := (by first | rfl | exact idV_eq _ | exact labV_eq _ _ | exact rectV_eq _ _ _ _)) (hi := by (try simp only [rowOf_size]); first | exact sizeState) (hs := by first | (simp only [rowOf_size]; done) | rfl) (h := ?_); clear hm; intro w1 hm; (try simp only [rowOf_set, k1, k2, k3, Value.cells, Act.eval, k7, k8, k9, kA, Option.getD_some] at hm)) | (refine wlSC (hm := hm) (hi := by first | exact sizeU32) (ho := by first | decide | (simp only [rowOf_size]; omega) | (simp; done)) (h := ?_); clear hm; intro w1 hm; (try simp only [rowOf_set, k1, k2, k3, Value.cells, Act.eval, k7, k8, k9, kA, Option.getD_some] at hm)) | (refine wlA (hz := by first | exact zeroState) (hm := hm) (h := ?_); clear hm; intro b1 w1 hm; (try simp only [rowOf_set, k1, k2, k3, Value.cells, Act.eval, k7, k8, k9, kA, Option.getD_some] at hm)) | (refine wl_box (by rfl) rfl (by first | exact idV_cells _ | exact labV_cells _ _ | exact rectV_cells _ _ _ _ | rfl) hm ?_; clear hm; intro b1 w1 hm) | (refine wl_build (by rfl) (built_state _ _ _ _ _) rfl ?_; (try simp only [Act.put, k1, k2, k3]); (try simp only [← idV_eq])) | (refine wl_build (by rfl) (built_state0) rfl ?_; (try simp only [Act.put, k1, k2, k3]); (try simp only [← idV_eq])) | (with_reducible first | refine stBs ?_ | refine stMs ?_ | refine stAp ?_ | refine stCo ?_)); (try simp only [k4, k5, k6, Act.put, k1, k2, k3]))
  refine (hc _).mono ?_
  rintro e w2 ⟨g, cap, cur, rfl, hr, hx⟩
  replace hm := Mem.callOwn (B := []) hm hx
  rw [List.cons_append, List.nil_append] at hm
  clear hx
  go_wp2_with ((first | refine wpList_skip (by rfl) ?_ | (refine wlL (hm := hm) (hu := by first | exact undState) (hi := by (try simp only [rowOf_size]); first | exact sizeState) (h := ?_); (try simp only [Act.put, k1, k2, k3]); (try simp only [← idV_eq])) | refine wlLC (hm := hm) (hv := by first | exact hcell.out | rfl) (hu := by first | exact undU32) (h := ?_) | (refine wlS (hm := hm) (hv := (by first | rfl | exact idV_eq _ | exact labV_eq _ _ | exact rectV_eq _ _ _ _)) (hi := by (try simp only [rowOf_size]); first | exact sizeState) (hs := by first | (simp only [rowOf_size]; done) | rfl) (h := ?_); clear hm; intro w1 hm; (try simp only [rowOf_set, k1, k2, k3, Value.cells, Act.eval, k7, k8, k9, kA, Option.getD_some] at hm)) | (refine wlSC (hm := hm) (hi := by first | exact sizeU32) (ho := by first | decide | (simp only [rowOf_size]; omega) | (simp; done)) (h := ?_); clear hm; intro w1 hm; (try simp only [rowOf_set, k1, k2, k3, Value.cells, Act.eval, k7, k8, k9, kA, Option.getD_some] at hm)) | (refine wlA (hz := by first | exact zeroState) (hm := hm) (h := ?_); clear hm; intro b1 w1 hm; (try simp only [rowOf_set, k1, k2, k3, Value.cells, Act.eval, k7, k8, k9, kA, Option.getD_some] at hm)) | (refine wl_box (by rfl) rfl (by first | exact idV_cells _ | exact labV_cells _ _ | exact rectV_cells _ _ _ _ | rfl) hm ?_; clear hm; intro b1 w1 hm) | (refine wl_build (by rfl) (built_state _ _ _ _ _) rfl ?_; (try simp only [Act.put, k1, k2, k3]); (try simp only [← idV_eq])) | (refine wl_build (by rfl) (built_state0) rfl ?_; (try simp only [Act.put, k1, k2, k3]); (try simp only [← idV_eq])) | (with_reducible first | refine stBs ?_ | refine stMs ?_ | refine stAp ?_ | refine stCo ?_)); (try simp only [k4, k5, k6, Act.put, k1, k2, k3]))
  clear hc
  have HR := hid hr
  clear hr
  go_loopw [8, 9, 10, 11, 12, 13] (fun va vb vc vd ve vt wr => ∃ t : Nat, t ≤ 80 ∧ vt = .int .i64 (t : Int) ∧ va = .int .u32 (((s.turns (wd f) t).a : Nat) : Int) ∧ vb = .int .u32 (((s.turns (wd f) t).b : Nat) : Int) ∧ vc = .int .u32 (((s.turns (wd f) t).c : Nat) : Int) ∧ vd = .int .u32 (((s.turns (wd f) t).d : Nat) : Int) ∧ ve = .int .u32 (((s.turns (wd f) t).e : Nat) : Int) ∧ Mem w [] [(g, .cells cur 50 (0, 0)), (b1, .cells #[.int .u32 0, .int .u32 0, .int .u32 0, .int .u32 0, .int .u32 0] 52 (0, 0)), (b2, .cells #[.int .u32 (s.a : Int), .int .u32 (s.b : Int), .int .u32 (s.c : Int), .int .u32 (s.d : Int), .int .u32 (s.e : Int)] 52 (0, 0))] wr)
    (fun _ _ _ _ _ vt _ => (80 - intOf vt).toNat)
  case atStart => exact ⟨0, by omega, rfl, rfl, rfl, rfl, rfl, rfl, hm⟩
  case round =>
    clear hm
    obtain ⟨t, ht, rfl, rfl, rfl, rfl, rfl, rfl, hm⟩ := hrel
    by_cases h80 : t < 80
    · have e1 : (t : Int) < 80 := by omega
      have hso := St.turns_ok hs (wd f) t
      have HT := hid (show s.turns (wd f) (t + 1) = (s.turns (wd f) t).turn t (wd f t) from rfl)
      obtain ⟨u, hu⟩ : ∃ u, s.turns (wd f) t = u := ⟨_, rfl⟩
      rw [hu] at hso HT ⊢
      clear hu
      have hcell := hid (HR.out.2.2.2 t h80)
      have w4' : IntKind.i64.wrap ((t : Int) + 1) = (t : Int) + 1 := wrap_i64 (by omega) (by omega)
      obtain ⟨z1, h1⟩ : ∃ z, (rot 5 u.a + mixM t u.b u.c u.d) % 2 ^ 32 = z := ⟨_, rfl⟩
      obtain ⟨z2, h2⟩ : ∃ z, (z1 + u.e) % 2 ^ 32 = z := ⟨_, rfl⟩
      obtain ⟨z3, h3⟩ : ∃ z, (z2 + addM t) % 2 ^ 32 = z := ⟨_, rfl⟩
      obtain ⟨z4, h4⟩ : ∃ z, (z3 + wd f t) % 2 ^ 32 = z := ⟨_, rfl⟩
      have f1 : IntKind.u32.wrap (((rot 5 u.a : Nat) : Int) + ((mixM t u.b u.c u.d : Nat) : Int)) = (z1 : Int) := by rw [wrap_add32, h1]
      have f2 : IntKind.u32.wrap ((z1 : Int) + (u.e : Int)) = (z2 : Int) := by rw [wrap_add32, h2]
      have f3 : IntKind.u32.wrap ((z2 : Int) + ((addM t : Nat) : Int)) = (z3 : Int) := by rw [wrap_add32, h3]
      have f4 : IntKind.u32.wrap ((z3 : Int) + ((wd f t : Nat) : Int)) = (z4 : Int) := by rw [wrap_add32, h4]
      have hz : (rot 5 u.a + mixM t u.b u.c u.d + u.e + addM t + wd f t) % 2 ^ 32 = z4 := by rw [← h4, ← h3, ← h2, ← h1, sum5]
      have HZ := hid (show u.turn t (wd f t) = ⟨z4, u.a, rot 30 u.b, u.c, u.d⟩ from by
        unfold St.turn
        rw [hz])
      clear h1 h2 h3 h4 hz
      go_wp2_with ((first | refine wpList_skip (by rfl) ?_ | (refine wlL (hm := hm) (hu := by first | exact undState) (hi := by (try simp only [rowOf_size]); first | exact sizeState) (h := ?_); (try simp only [Act.put, k1, k2, k3]); (try simp only [← idV_eq])) | refine wlLC (hm := hm) (hv := by first | exact hcell.out | rfl) (hu := by first | exact undU32) (h := ?_) | (refine wlS (hm := hm) (hv := (by first | rfl | exact idV_eq _ | exact labV_eq _ _ | exact rectV_eq _ _ _ _)) (hi := by (try simp only [rowOf_size]); first | exact sizeState) (hs := by first | (simp only [rowOf_size]; done) | rfl) (h := ?_); clear hm; intro w1 hm; (try simp only [rowOf_set, k1, k2, k3, Value.cells, Act.eval, k7, k8, k9, kA, Option.getD_some] at hm)) | (refine wlSC (hm := hm) (hi := by first | exact sizeU32) (ho := by first | decide | (simp only [rowOf_size]; omega) | (simp; done)) (h := ?_); clear hm; intro w1 hm; (try simp only [rowOf_set, k1, k2, k3, Value.cells, Act.eval, k7, k8, k9, kA, Option.getD_some] at hm)) | (refine wlA (hz := by first | exact zeroState) (hm := hm) (h := ?_); clear hm; intro b1 w1 hm; (try simp only [rowOf_set, k1, k2, k3, Value.cells, Act.eval, k7, k8, k9, kA, Option.getD_some] at hm)) | (refine wl_box (by rfl) rfl (by first | exact idV_cells _ | exact labV_cells _ _ | exact rectV_cells _ _ _ _ | rfl) hm ?_; clear hm; intro b1 w1 hm) | (refine wl_build (by rfl) (built_state _ _ _ _ _) rfl ?_; (try simp only [Act.put, k1, k2, k3]); (try simp only [← idV_eq])) | (refine wl_build (by rfl) (built_state0) rfl ?_; (try simp only [Act.put, k1, k2, k3]); (try simp only [← idV_eq])) | (go_at_call 70; refine (mixed_c _ _ _ _ h80 hso.2.1 hso.2.2.1 hso.2.2.2.1 _).mono ?_; rintro e w1 ⟨rfl, hx⟩; replace hm := hm.call hx; clear hx) | (go_at_call 68; refine (left_c _ 5 hso.1 (by decide) _).mono ?_; rintro e w1 ⟨rfl, hx⟩; replace hm := hm.call hx; clear hx) | (with_reducible first | refine stBs ?_ | refine stMs ?_ | refine stAp ?_ | refine stCo ?_)); (try simp only [k4, k5, k6, Act.put, k1, k2, k3]))
      go_wp2_with (with_reducible first | refine stAl ?_ | refine stBo ?_ | refine stLo ?_ | refine stSo ?_ | refine stBu ?_ | refine stBs ?_ | refine stMs ?_ | refine stAp ?_ | refine stCo ?_); refine wp_quiet_mem (by kernel_rfl) (by kernel_rfl) hm ?_
      repeat ((first | refine wq_skip (by rfl) ?_ | (refine wqL (hu := by first | exact undState) (hi := by (try simp only [rowOf_size]); first | exact sizeState) (h := ?_); (try simp only [Act.put, k1, k2, k3]); (try simp only [← idV_eq])) | refine wqLC (hv := by first | exact hcell.out | rfl) (hu := by first | exact undU32) (h := ?_) | ((with_reducible show wpQuiet _ _ _ _ (⟨_, .call _, _, _, _, _⟩ :: _) _); refine wq_ask (by rfl) ?_; apply Exists.intro; refine ⟨?_, ?_⟩; (focus (intro w hC; go_simp; first | (go_at_call 70; exact (mixed_c _ _ _ _ h80 hso.2.1 hso.2.2.1 hso.2.2.2.1 _).mono fun e w' h => ⟨h.1, hC.call h.2⟩) | (go_at_call 68; exact (left_c _ 5 hso.1 (by decide) _).mono fun e w' h => ⟨h.1, hC.call h.2⟩)))) | (refine wq_build (by rfl) (built_state _ _ _ _ _) rfl ?_; (try simp only [Act.put, k1, k2, k3]); (try simp only [← idV_eq])) | (refine wq_build (by rfl) (built_state0) rfl ?_; (try simp only [Act.put, k1, k2, k3]); (try simp only [← idV_eq])) | refine wqS (h := ?_)); (try simp only [k4, k5, k6, Act.put, k1, k2, k3]))
      refine wpQuiet_nil ?_; clear hm; intro w5 hm
      go_wp2_with ((first | refine wpList_skip (by rfl) ?_ | (refine wlL (hm := hm) (hu := by first | exact undState) (hi := by (try simp only [rowOf_size]); first | exact sizeState) (h := ?_); (try simp only [Act.put, k1, k2, k3]); (try simp only [← idV_eq])) | refine wlLC (hm := hm) (hv := by first | exact hcell.out | rfl) (hu := by first | exact undU32) (h := ?_) | (refine wlS (hm := hm) (hv := (by first | rfl | exact idV_eq _ | exact labV_eq _ _ | exact rectV_eq _ _ _ _)) (hi := by (try simp only [rowOf_size]); first | exact sizeState) (hs := by first | (simp only [rowOf_size]; done) | rfl) (h := ?_); clear hm; intro w1 hm; (try simp only [rowOf_set, k1, k2, k3, Value.cells, Act.eval, k7, k8, k9, kA, Option.getD_some] at hm)) | (refine wlSC (hm := hm) (hi := by first | exact sizeU32) (ho := by first | decide | (simp only [rowOf_size]; omega) | (simp; done)) (h := ?_); clear hm; intro w1 hm; (try simp only [rowOf_set, k1, k2, k3, Value.cells, Act.eval, k7, k8, k9, kA, Option.getD_some] at hm)) | (refine wlA (hz := by first | exact zeroState) (hm := hm) (h := ?_); clear hm; intro b1 w1 hm; (try simp only [rowOf_set, k1, k2, k3, Value.cells, Act.eval, k7, k8, k9, kA, Option.getD_some] at hm)) | (refine wl_box (by rfl) rfl (by first | exact idV_cells _ | exact labV_cells _ _ | exact rectV_cells _ _ _ _ | rfl) hm ?_; clear hm; intro b1 w1 hm) | (refine wl_build (by rfl) (built_state _ _ _ _ _) rfl ?_; (try simp only [Act.put, k1, k2, k3]); (try simp only [← idV_eq])) | (refine wl_build (by rfl) (built_state0) rfl ?_; (try simp only [Act.put, k1, k2, k3]); (try simp only [← idV_eq])) | (go_at_call 68; refine (left_c _ 30 hso.2.1 (by decide) _).mono ?_; rintro e w1 ⟨rfl, hx⟩; replace hm := hm.call hx; clear hx) | (with_reducible first | refine stBs ?_ | refine stMs ?_ | refine stAp ?_ | refine stCo ?_)); (try simp only [k4, k5, k6, Act.put, k1, k2, k3]))
      go_roundw
      case rel => exact ⟨t + 1, by omega, by go_num, by rw [HT.out, HZ.out], by rw [HT.out, HZ.out], by rw [HT.out, HZ.out], by rw [HT.out, HZ.out], by rw [HT.out, HZ.out], hm⟩
      case measure => (simp [intOf]; try omega)
    · obtain rfl : t = 80 := by omega
      rw [HV.out]
      have f1 := F1.out
      have f2 := F2.out
      have f3 := F3.out
      have f4 := F4.out
      have f5 := F5.out
      go_wp2_with ((first | refine wpList_skip (by rfl) ?_ | (refine wlL (hm := hm) (hu := by first | exact undState) (hi := by (try simp only [rowOf_size]); first | exact sizeState) (h := ?_); (try simp only [Act.put, k1, k2, k3]); (try simp only [← idV_eq])) | refine wlLC (hm := hm) (hv := by first | exact hcell.out | rfl) (hu := by first | exact undU32) (h := ?_) | (refine wlS (hm := hm) (hv := (by first | rfl | exact idV_eq _ | exact labV_eq _ _ | exact rectV_eq _ _ _ _)) (hi := by (try simp only [rowOf_size]); first | exact sizeState) (hs := by first | (simp only [rowOf_size]; done) | rfl) (h := ?_); clear hm; intro w1 hm; (try simp only [rowOf_set, k1, k2, k3, Value.cells, Act.eval, k7, k8, k9, kA, Option.getD_some] at hm)) | (refine wlSC (hm := hm) (hi := by first | exact sizeU32) (ho := by first | decide | (simp only [rowOf_size]; omega) | (simp; done)) (h := ?_); clear hm; intro w1 hm; (try simp only [rowOf_set, k1, k2, k3, Value.cells, Act.eval, k7, k8, k9, kA, Option.getD_some] at hm)) | (refine wlA (hz := by first | exact zeroState) (hm := hm) (h := ?_); clear hm; intro b1 w1 hm; (try simp only [rowOf_set, k1, k2, k3, Value.cells, Act.eval, k7, k8, k9, kA, Option.getD_some] at hm)) | (refine wl_box (by rfl) rfl (by first | exact idV_cells _ | exact labV_cells _ _ | exact rectV_cells _ _ _ _ | rfl) hm ?_; clear hm; intro b1 w1 hm) | (refine wl_build (by rfl) (built_state _ _ _ _ _) rfl ?_; (try simp only [Act.put, k1, k2, k3]); (try simp only [← idV_eq])) | (refine wl_build (by rfl) (built_state0) rfl ?_; (try simp only [Act.put, k1, k2, k3]); (try simp only [← idV_eq])) | (with_reducible first | refine stBs ?_ | refine stMs ?_ | refine stAp ?_ | refine stCo ?_)); (try simp only [k4, k5, k6, Act.put, k1, k2, k3]))
      refine bodyPost_ret (results_row_tmp (h := rfl) _ _ _ _ _ _ _ rfl (hm.heap (i := 1) rfl) undState rfl (by first | exact sizeState | (simp only [rowOf_size]; exact sizeState))) rfl ?_
      exact ⟨by first | rfl | (simp only [stV_eq]; rfl), hm.ext⟩
end Go.Proofs.Ytdlfgoiakkkilaa
