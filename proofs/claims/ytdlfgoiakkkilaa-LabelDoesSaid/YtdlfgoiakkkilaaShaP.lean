/-
  Sums: the four phases.
-/
import Derived.Test.YtdlfgoiakkkilaaShaV
namespace Go.Proofs.Ytdlfgoiakkkilaa
open Go.RowKit
set_option linter.unusedSimpArgs false
set_option linter.unusedVariables false
set_option maxHeartbeats 1000000
set_option maxRecDepth 20000
attribute [local irreducible] wpQuiet wpList wpAnyH Calls

def fnV (f : FuncId) : Value := .func (.func f) #[] #[]
def phV : Array Value := #[fnV 79, .int .u32 1518500249, fnV 80, .int .u32 1859775393, fnV 81, .int .u32 2400959708, fnV 80, .int .u32 3395469782]
theorem built_p1 : Try.prog.built 92 [(0, fnV 79), (1, .int .u32 1518500249)] = some #[fnV 79, .int .u32 1518500249] := by kernel_rfl
theorem built_p2 : Try.prog.built 92 [(0, fnV 80), (1, .int .u32 1859775393)] = some #[fnV 80, .int .u32 1859775393] := by kernel_rfl
theorem built_p3 : Try.prog.built 92 [(0, fnV 81), (1, .int .u32 2400959708)] = some #[fnV 81, .int .u32 2400959708] := by kernel_rfl
theorem built_p4 : Try.prog.built 92 [(0, fnV 80), (1, .int .u32 3395469782)] = some #[fnV 80, .int .u32 3395469782] := by kernel_rfl
theorem built_phs : Try.prog.built 93 [(0, .agg #[fnV 79, .int .u32 1518500249]), (1, .agg #[fnV 80, .int .u32 1859775393]), (2, .agg #[fnV 81, .int .u32 2400959708]), (3, .agg #[fnV 80, .int .u32 3395469782])] = some phV := by kernel_rfl
theorem built_state0 : Try.prog.built 52 [] = some #[.int .u32 0, .int .u32 0, .int .u32 0, .int .u32 0, .int .u32 0] := by kernel_rfl
theorem zeroPhase : (Try.prog.info? 92).bind (·.zero) = some (.agg #[.nilFunc, .int .u32 0]) := by kernel_rfl
theorem zeroPhases : (Try.prog.info? 93).bind (·.zero) = some (.agg #[.nilFunc, .int .u32 0, .nilFunc, .int .u32 0, .nilFunc, .int .u32 0, .nilFunc, .int .u32 0]) := by kernel_rfl
theorem sizePhase : (Try.prog.info? 92).map (·.size) = some 2 := by kernel_rfl
theorem sizePhases : (Try.prog.info? 93).map (·.size) = some 8 := by kernel_rfl
noncomputable def phFields : Array Field := match Try.prog.underlying 92 with | some (.struct fs) => fs | _ => #[]
theorem undPhase : Try.prog.underlying 92 = some (.struct phFields) := by kernel_rfl
theorem undPhases : Try.prog.underlying 93 = some (.array 4 92) := by kernel_rfl
theorem phases_c (w : World) : Calls Try.prog 69 #[] w fun e w' => e = .returned (.agg phV) ∧ Ext w w' := by
  go_enter Try.func69, Try.ntmps69
  have hm := Mem.refl w []
  go_wp2_with ((first | refine wpList_skip (by rfl) ?_ | (refine wlL (hm := hm) (hu := by first | exact undState | exact undPhases | exact undPhase) (hi := by (try simp only [rowOf_size]); first | exact sizeState | exact sizePhases | exact sizePhase) (h := ?_); (try simp only [Act.put, k1, k2, k3]); (try simp only [← idV_eq])) | refine wlLC (hm := hm) (hu := by first | exact undU32) (h := ?_) | (refine wlS (hm := hm) (hv := (by first | rfl | exact idV_eq _ | exact labV_eq _ _ | exact rectV_eq _ _ _ _)) (hi := by (try simp only [rowOf_size]); first | exact sizeState | exact sizePhases | exact sizePhase) (hs := by first | (simp only [rowOf_size]; done) | rfl) (h := ?_); clear hm; intro w1 hm; (try simp only [rowOf_set, k1, k2, k3, Value.cells, Act.eval, k7, k8, k9, kA, Option.getD_some] at hm)) | (refine wlSC (hm := hm) (hi := by first | exact sizeU32) (ho := by first | decide | (simp only [rowOf_size]; omega) | (simp; done)) (h := ?_); clear hm; intro w1 hm; (try simp only [rowOf_set, k1, k2, k3, Value.cells, Act.eval, k7, k8, k9, kA, Option.getD_some] at hm)) | (refine wlA (hz := by first | exact zeroState | exact zeroPhases | exact zeroPhase) (hm := hm) (h := ?_); clear hm; intro b1 w1 hm; (try simp only [rowOf_set, k1, k2, k3, Value.cells, Act.eval, k7, k8, k9, kA, Option.getD_some] at hm)) | (refine wl_box (by rfl) rfl (by first | exact idV_cells _ | exact labV_cells _ _ | exact rectV_cells _ _ _ _ | rfl) hm ?_; clear hm; intro b1 w1 hm) | (refine wl_build (by rfl) (built_p1) rfl ?_; (try simp only [Act.put, k1, k2, k3]); (try simp only [← idV_eq])) | (refine wl_build (by rfl) (built_p2) rfl ?_; (try simp only [Act.put, k1, k2, k3]); (try simp only [← idV_eq])) | (refine wl_build (by rfl) (built_p3) rfl ?_; (try simp only [Act.put, k1, k2, k3]); (try simp only [← idV_eq])) | (refine wl_build (by rfl) (built_phs) rfl ?_; (try simp only [Act.put, k1, k2, k3]); (try simp only [← idV_eq])) | (refine wl_build (by rfl) (built_state _ _ _ _ _) rfl ?_; (try simp only [Act.put, k1, k2, k3]); (try simp only [← idV_eq])) | (refine wl_build (by rfl) (built_state0) rfl ?_; (try simp only [Act.put, k1, k2, k3]); (try simp only [← idV_eq])) | (with_reducible first | refine stBs ?_ | refine stMs ?_ | refine stAp ?_ | refine stCo ?_)); (try simp only [k4, k5, k6, Act.put, k1, k2, k3]))
  refine bodyPost_ret (results_cell_row (h := rfl) _ _ _ _ _ _ _ rfl (hm.heap (i := 0) rfl) undPhases rfl (by first | exact sizePhases | (simp only [rowOf_size]; exact sizePhases))) rfl ?_
  exact ⟨rfl, hm.ext⟩
end Go.Proofs.Ytdlfgoiakkkilaa
