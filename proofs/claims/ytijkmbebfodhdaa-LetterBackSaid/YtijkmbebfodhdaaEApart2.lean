/- Texts joined by program: WirC WirD WirE WirF Mem8 WirG WirH WirI WirP EqI LetA Open OpenN Mem13 LetB LetC LetE. -/
import Derived.Lib.BufferWrite
import Derived.ChangeKeysEq
import Derived.DeepKeys
import Derived.Test.YtijkmbebfodhdaaChecked
import Derived.Test.YtijkmbebfodhdaaRows
import Derived.ProofKit
import Derived.OpenShut
import Derived.ShutString
import Derived.ChangeOld
import Derived.Below
import Derived.ChangeSlices
import Derived.Test.YtijkmbebfodhdaaEApart1
/- (WirC)
  Wire: a label's bytes.
-/
namespace Go.Proofs.Ytijkmbebfodhdaa
open Go.RowKit
set_option linter.unusedSimpArgs false
set_option linter.unusedVariables false
set_option maxHeartbeats 1000000
set_option maxRecDepth 20000
attribute [local irreducible] wpQuiet wpList wpAnyH Calls

/-- A label's bytes: how many bits, and these. -/
def labF (n b j : Nat) : Nat := if j = 0 then n else b / 2 ^ (64 - 8 * j) % 256
theorem putLabel_no (b : ByteArray) (len : Int) (k : Nat) (hi : Says 33 #[labV len k] (.bool false)) : Says 14 #[.string b, labV len k] (.tuple #[.string { data := #[] }, .int .i64 1]) := by
  intro w
  go_enter Try.func14, Try.ntmps14
  have hm := Mem.refl w []
  go_wp2_with ((first | refine wpList_skip (by rfl) ?_ | (refine wlL (hm := hm) (hu := by first | exact undID | exact undLabel) (hi := by (try simp only [rowOf_size, idC_size]); first | exact sizeID | exact sizeLabel) (h := ?_); (try simp only [Act.put, k1, k2, k3]); (try simp only [← labV_eq, ← idV_eq])) | refine wlLC (hm := hm) (hu := by first | exact undByteI | exact undInt | exact undU64) (h := ?_) | (refine wlS (hm := hm) (hv := (by first | rfl | exact idV_eq _ | exact labV_eq _ _ | exact rectV_eq _ _ _ _)) (hi := by (try simp only [rowOf_size, idC_size]); first | exact sizeID | exact sizeLabel) (hs := by first | (simp only [rowOf_size, idC_size]; done) | rfl) (h1 := by first | rfl | exact idC_one _ | exact rowOf_one _ _ (fun _ _ => rfl) | (simp only [List.size_toArray, List.length_cons, List.all_toArray', List.all_cons, List.all_nil, Value.oneCell', Bool.and_true, Bool.and_self]; done) | (simp [Value.oneCell']; done)) (h := ?_); clear hm; intro w1 hm; (try simp only [rowOf_set, k1, k2, k3, Value.cells, Act.eval, k7, k8, k9, kA, Option.getD_some] at hm)) | (refine wlSC (hm := hm) (hi := by first | exact sizeByteI | exact sizeInt | exact sizeU64) (ho := by first | decide | (simp only [rowOf_size, idC_size]; omega) | (simp; done)) (h := ?_); clear hm; intro w1 hm; (try simp only [rowOf_set, k1, k2, k3, Value.cells, Act.eval, k7, k8, k9, kA, Option.getD_some] at hm)) | (refine wlA (hz := by first | exact zeroID | exact zeroLabel) (hm := hm) (h := ?_); clear hm; intro b1 w1 hm; (try simp only [rowOf_set, k1, k2, k3, Value.cells, Act.eval, k7, k8, k9, kA, Option.getD_some] at hm)) | (refine wl_box (by rfl) rfl (by first | exact idV_cells _ | exact labV_cells _ _ | exact rectV_cells _ _ _ _ | rfl) hm ?_; clear hm; intro b1 w1 hm) | (go_at_call 33; refine (hi _).mono ?_; rintro e w1 ⟨rfl, hx⟩; replace hm := hm.call hx; clear hx) | (with_reducible first | refine stBs ?_ | refine stMs ?_ | refine stAp ?_ | refine stCo ?_ | (show wpList _ _ _ (⟨_, .convert 71 9 _, _, _, _, _⟩ :: _) _ _; refine Stop.mk ?_))); (try simp only [k4, k5, k6, Act.put, k1, k2, k3]))
  go_ret2
  exact ⟨rfl, hm.ext⟩
theorem putLabel_c (B : ByteArray) (hB : B.size < 2 ^ 61) (n b : Nat) (hn : n ≤ 64) (hi : Says 33 #[labV (n : Int) b] (.bool true)) :
    Says 14 #[.string B, labV (n : Int) b] (.tuple #[.string (B ++ bytesB ((n + 7) / 8 + 1) (labF n b)), .int .i64 0]) := by
  intro w
  have f5 : IntKind.u8.wrap (n : Int) = (n : Int) := wrap_u8 (by omega) (by omega)
  have HF := hid (show ∀ k, k < (n + 7) / 8 → labF n b (k + 1) = b / 2 ^ (56 - 8 * k) % 256 from fun k h => by
    unfold labF
    rw [if_neg (by omega), show 64 - 8 * (k + 1) = 56 - 8 * k from by omega])
  have HF0 := hid (show labF n b 0 = n from by unfold labF; rfl)
  have HM := hid (show ∀ k, (k < (n + 7) / 8 ↔ 8 * k < n) from fun k => by omega)
  have hz := bytesB_size ((n + 7) / 8 + 1) (labF n b)
  obtain ⟨F, hF⟩ : ∃ F, labF n b = F := ⟨_, rfl⟩
  rw [hF] at HF HF0 hz ⊢
  clear hF
  obtain ⟨m, hmm⟩ : ∃ m, (n + 7) / 8 = m := ⟨_, rfl⟩
  rw [hmm] at HF HM hz ⊢
  have HN := hid (show n ≤ 64 ∧ m ≤ 8 from ⟨hn, by omega⟩)
  have HB := hid hB
  clear hmm hn hB
  go_enter Try.func14, Try.ntmps14
  have hm := Mem.refl w []
  go_wp2_with (with_reducible first | refine stAl ?_ | refine stBo ?_ | refine stLo ?_ | refine stSo ?_ | refine stBu ?_ | refine stBs ?_ | refine stMs ?_ | refine stAp ?_ | refine stCo ?_ | (show wpList _ _ _ (⟨_, .convert 71 9 _, _, _, _, _⟩ :: _) _ _; refine Stop.mk ?_)); refine Stop.go (wl_box (by rfl) rfl (labV_cells (n : Int) b) hm ?_); clear hm; intro b1 w1 hm; simp only [Act.put, k1, k2, k3]; (try simp only [rowOf_set, k1, k2, k3, Value.cells, Act.eval, k7, k8, k9, kA, Option.getD_some] at hm)
  go_wp2_with ((first | refine wpList_skip (by rfl) ?_ | (refine wlL (hm := hm) (hu := by first | exact undID | exact undLabel) (hi := by (try simp only [rowOf_size, idC_size]); first | exact sizeID | exact sizeLabel) (h := ?_); (try simp only [Act.put, k1, k2, k3]); (try simp only [← labV_eq, ← idV_eq])) | refine wlLC (hm := hm) (hu := by first | exact undByteI | exact undInt | exact undU64) (h := ?_) | (refine wlS (hm := hm) (hv := (by first | rfl | exact idV_eq _ | exact labV_eq _ _ | exact rectV_eq _ _ _ _)) (hi := by (try simp only [rowOf_size, idC_size]); first | exact sizeID | exact sizeLabel) (hs := by first | (simp only [rowOf_size, idC_size]; done) | rfl) (h1 := by first | rfl | exact idC_one _ | exact rowOf_one _ _ (fun _ _ => rfl) | (simp only [List.size_toArray, List.length_cons, List.all_toArray', List.all_cons, List.all_nil, Value.oneCell', Bool.and_true, Bool.and_self]; done) | (simp [Value.oneCell']; done)) (h := ?_); clear hm; intro w1 hm; (try simp only [rowOf_set, k1, k2, k3, Value.cells, Act.eval, k7, k8, k9, kA, Option.getD_some] at hm)) | (refine wlSC (hm := hm) (hi := by first | exact sizeByteI | exact sizeInt | exact sizeU64) (ho := by first | decide | (simp only [rowOf_size, idC_size]; omega) | (simp; done)) (h := ?_); clear hm; intro w1 hm; (try simp only [rowOf_set, k1, k2, k3, Value.cells, Act.eval, k7, k8, k9, kA, Option.getD_some] at hm)) | (refine wlA (hz := by first | exact zeroID | exact zeroLabel) (hm := hm) (h := ?_); clear hm; intro b1 w1 hm; (try simp only [rowOf_set, k1, k2, k3, Value.cells, Act.eval, k7, k8, k9, kA, Option.getD_some] at hm)) | (refine wl_box (by rfl) rfl (by first | exact idV_cells _ | exact labV_cells _ _ | exact rectV_cells _ _ _ _ | rfl) hm ?_; clear hm; intro b1 w1 hm) | (go_at_call 33; refine (hi _).mono ?_; rintro e w1 ⟨rfl, hx⟩; replace hm := hm.call hx; clear hx) | (with_reducible first | refine stBs ?_ | refine stMs ?_ | refine stAp ?_ | refine stCo ?_ | (show wpList _ _ _ (⟨_, .convert 71 9 _, _, _, _, _⟩ :: _) _ _; refine Stop.mk ?_))); (try simp only [k4, k5, k6, Act.put, k1, k2, k3]))
  refine Stop.go (wl_buildSlice (ps := [(0, .int .u8 (n : Int))]) (cells := #[.int .u8 (n : Int)]) (by rfl) hm elByteI (by decide) (by decide) (by simp [Act.eval]) (fill_one _ _ rfl) ?_)
  clear hm; intro g0 w5 hm; simp only [Act.put, k1, k2, k3]
  go_wp2_with ((first | refine wpList_skip (by rfl) ?_ | (refine wlL (hm := hm) (hu := by first | exact undID | exact undLabel) (hi := by (try simp only [rowOf_size, idC_size]); first | exact sizeID | exact sizeLabel) (h := ?_); (try simp only [Act.put, k1, k2, k3]); (try simp only [← labV_eq, ← idV_eq])) | refine wlLC (hm := hm) (hu := by first | exact undByteI | exact undInt | exact undU64) (h := ?_) | (refine wlS (hm := hm) (hv := (by first | rfl | exact idV_eq _ | exact labV_eq _ _ | exact rectV_eq _ _ _ _)) (hi := by (try simp only [rowOf_size, idC_size]); first | exact sizeID | exact sizeLabel) (hs := by first | (simp only [rowOf_size, idC_size]; done) | rfl) (h1 := by first | rfl | exact idC_one _ | exact rowOf_one _ _ (fun _ _ => rfl) | (simp only [List.size_toArray, List.length_cons, List.all_toArray', List.all_cons, List.all_nil, Value.oneCell', Bool.and_true, Bool.and_self]; done) | (simp [Value.oneCell']; done)) (h := ?_); clear hm; intro w1 hm; (try simp only [rowOf_set, k1, k2, k3, Value.cells, Act.eval, k7, k8, k9, kA, Option.getD_some] at hm)) | (refine wlSC (hm := hm) (hi := by first | exact sizeByteI | exact sizeInt | exact sizeU64) (ho := by first | decide | (simp only [rowOf_size, idC_size]; omega) | (simp; done)) (h := ?_); clear hm; intro w1 hm; (try simp only [rowOf_set, k1, k2, k3, Value.cells, Act.eval, k7, k8, k9, kA, Option.getD_some] at hm)) | (refine wlA (hz := by first | exact zeroID | exact zeroLabel) (hm := hm) (h := ?_); clear hm; intro b1 w1 hm; (try simp only [rowOf_set, k1, k2, k3, Value.cells, Act.eval, k7, k8, k9, kA, Option.getD_some] at hm)) | (refine wl_box (by rfl) rfl (by first | exact idV_cells _ | exact labV_cells _ _ | exact rectV_cells _ _ _ _ | rfl) hm ?_; clear hm; intro b1 w1 hm) | (go_at_call 33; refine (hi _).mono ?_; rintro e w1 ⟨rfl, hx⟩; replace hm := hm.call hx; clear hx) | (with_reducible first | refine stBs ?_ | refine stMs ?_ | refine stAp ?_ | refine stCo ?_ | (show wpList _ _ _ (⟨_, .convert 71 9 _, _, _, _, _⟩ :: _) _ _; refine Stop.mk ?_))); (try simp only [k4, k5, k6, Act.put, k1, k2, k3]))
  have hr0 : RowB F 1 1 #[.int .u8 (n : Int)] := ⟨by omega, by omega, rfl, fun j hj => by rw [show j = 0 from by omega, HF0.out]; rfl⟩
  go_loopw [6, 7] (fun vs va wr => ∃ (k at' g cap : Nat) (cur : Array Value), k ≤ m ∧ 8 * k = at' ∧ va = .int .i64 (at' : Int) ∧ vs = .slice (some ⟨g, 0, none⟩) (k + 1) cap ∧ Hid (RowB F (k + 1) cap cur) ∧ Mem w [] [(g, .cells cur 5 (0, 0)), (b1, .cells #[.int .i64 (n : Int), .int .u64 (b : Int)] 26 (0, 0))] wr)
    (fun _ va _ => (100 - intOf va).toNat)
  case atStart => exact ⟨0, 0, g0, 1, _, by omega, rfl, rfl, rfl, hid hr0, hm⟩
  case round =>
    clear hm hr0
    obtain ⟨k, at', g, cap, cur, hk, hat, rfl, rfl, HR, hm⟩ := hrel
    by_cases hkm : k < m
    · have hlt : at' < n := by have := (HM.out k).1 hkm; omega
      have hl2 : (at' : Int) < (n : Int) := by omega
      have hn8 := HN.out
      obtain ⟨s, hs⟩ : ∃ s, 56 - 8 * k = s := ⟨_, rfl⟩
      have hfb := HF.out k hkm
      rw [hs] at hfb
      obtain ⟨p, hp⟩ : ∃ p, b / 2 ^ s = p := ⟨_, rfl⟩
      rw [hp] at hfb
      obtain ⟨r, hr⟩ : ∃ r, p % 256 = r := ⟨_, rfl⟩
      rw [hr] at hfb
      have g1 : IntKind.i64.wrap (56 - (at' : Int)) = (s : Int) := by rw [wrap_i64 (by omega) (by omega)]; omega
      have g2 : (b : Int) / 2 ^ s = (p : Int) := by rw [← hp]; push_cast; rfl
      have g3 : IntKind.u8.wrap (p : Int) = (r : Int) := by rw [wrap_byte, hr]
      have g4 : IntKind.i64.wrap ((at' : Int) + 8) = (at' : Int) + 8 := wrap_i64 (by omega) (by omega)
      have z0 : (0 : Int) ≤ (s : Int) := by omega
      have z1 : (s : Int) ≤ 64 := by omega
      have HX := hid hfb
      have HA := hid (show 8 * (k + 1) = at' + 8 ∧ k < m ∧ at' < 64 from ⟨by omega, hkm, by omega⟩)
      clear hfb hs hp hr hn8 hk hat hkm
      go_wp2_with ((first | refine wpList_skip (by rfl) ?_ | (refine wlL (hm := hm) (hu := by first | exact undID | exact undLabel) (hi := by (try simp only [rowOf_size, idC_size]); first | exact sizeID | exact sizeLabel) (h := ?_); (try simp only [Act.put, k1, k2, k3]); (try simp only [← labV_eq, ← idV_eq])) | refine wlLC (hm := hm) (hu := by first | exact undByteI | exact undInt | exact undU64) (h := ?_) | (refine wlS (hm := hm) (hv := (by first | rfl | exact idV_eq _ | exact labV_eq _ _ | exact rectV_eq _ _ _ _)) (hi := by (try simp only [rowOf_size, idC_size]); first | exact sizeID | exact sizeLabel) (hs := by first | (simp only [rowOf_size, idC_size]; done) | rfl) (h1 := by first | rfl | exact idC_one _ | exact rowOf_one _ _ (fun _ _ => rfl) | (simp only [List.size_toArray, List.length_cons, List.all_toArray', List.all_cons, List.all_nil, Value.oneCell', Bool.and_true, Bool.and_self]; done) | (simp [Value.oneCell']; done)) (h := ?_); clear hm; intro w1 hm; (try simp only [rowOf_set, k1, k2, k3, Value.cells, Act.eval, k7, k8, k9, kA, Option.getD_some] at hm)) | (refine wlSC (hm := hm) (hi := by first | exact sizeByteI | exact sizeInt | exact sizeU64) (ho := by first | decide | (simp only [rowOf_size, idC_size]; omega) | (simp; done)) (h := ?_); clear hm; intro w1 hm; (try simp only [rowOf_set, k1, k2, k3, Value.cells, Act.eval, k7, k8, k9, kA, Option.getD_some] at hm)) | (refine wlA (hz := by first | exact zeroID | exact zeroLabel) (hm := hm) (h := ?_); clear hm; intro b1 w1 hm; (try simp only [rowOf_set, k1, k2, k3, Value.cells, Act.eval, k7, k8, k9, kA, Option.getD_some] at hm)) | (refine wl_box (by rfl) rfl (by first | exact idV_cells _ | exact labV_cells _ _ | exact rectV_cells _ _ _ _ | rfl) hm ?_; clear hm; intro b1 w1 hm) | (go_at_call 33; refine (hi _).mono ?_; rintro e w1 ⟨rfl, hx⟩; replace hm := hm.call hx; clear hx) | (with_reducible first | refine stBs ?_ | refine stMs ?_ | refine stAp ?_ | refine stCo ?_ | (show wpList _ _ _ (⟨_, .convert 71 9 _, _, _, _, _⟩ :: _) _ _; refine Stop.mk ?_))); (try simp only [k4, k5, k6, Act.put, k1, k2, k3]))
      refine Stop.go (wl_buildSlice (ps := [(0, .int .u8 (r : Int))]) (cells := #[.int .u8 (r : Int)]) (by rfl) hm elByteI (by decide) (by decide) (by simp [Act.eval]) (fill_one _ _ rfl) ?_)
      clear hm; intro gn w6 hm; simp only [Act.put, k1, k2, k3]
      go_wp2_with ((first | refine wpList_skip (by rfl) ?_ | (refine wlL (hm := hm) (hu := by first | exact undID | exact undLabel) (hi := by (try simp only [rowOf_size, idC_size]); first | exact sizeID | exact sizeLabel) (h := ?_); (try simp only [Act.put, k1, k2, k3]); (try simp only [← labV_eq, ← idV_eq])) | refine wlLC (hm := hm) (hu := by first | exact undByteI | exact undInt | exact undU64) (h := ?_) | (refine wlS (hm := hm) (hv := (by first | rfl | exact idV_eq _ | exact labV_eq _ _ | exact rectV_eq _ _ _ _)) (hi := by (try simp only [rowOf_size, idC_size]); first | exact sizeID | exact sizeLabel) (hs := by first | (simp only [rowOf_size, idC_size]; done) | rfl) (h1 := by first | rfl | exact idC_one _ | exact rowOf_one _ _ (fun _ _ => rfl) | (simp only [List.size_toArray, List.length_cons, List.all_toArray', List.all_cons, List.all_nil, Value.oneCell', Bool.and_true, Bool.and_self]; done) | (simp [Value.oneCell']; done)) (h := ?_); clear hm; intro w1 hm; (try simp only [rowOf_set, k1, k2, k3, Value.cells, Act.eval, k7, k8, k9, kA, Option.getD_some] at hm)) | (refine wlSC (hm := hm) (hi := by first | exact sizeByteI | exact sizeInt | exact sizeU64) (ho := by first | decide | (simp only [rowOf_size, idC_size]; omega) | (simp; done)) (h := ?_); clear hm; intro w1 hm; (try simp only [rowOf_set, k1, k2, k3, Value.cells, Act.eval, k7, k8, k9, kA, Option.getD_some] at hm)) | (refine wlA (hz := by first | exact zeroID | exact zeroLabel) (hm := hm) (h := ?_); clear hm; intro b1 w1 hm; (try simp only [rowOf_set, k1, k2, k3, Value.cells, Act.eval, k7, k8, k9, kA, Option.getD_some] at hm)) | (refine wl_box (by rfl) rfl (by first | exact idV_cells _ | exact labV_cells _ _ | exact rectV_cells _ _ _ _ | rfl) hm ?_; clear hm; intro b1 w1 hm) | (go_at_call 33; refine (hi _).mono ?_; rintro e w1 ⟨rfl, hx⟩; replace hm := hm.call hx; clear hx) | (with_reducible first | refine stBs ?_ | refine stMs ?_ | refine stAp ?_ | refine stCo ?_ | (show wpList _ _ _ (⟨_, .convert 71 9 _, _, _, _, _⟩ :: _) _ _; refine Stop.mk ?_))); (try simp only [k4, k5, k6, Act.put, k1, k2, k3]))
      have hnw := news_of (i := 0) hm rfl
      have hn8 := HN.out
      have hi := HA.out
      refine Stop.go (wl_op (by rfl) fun K hK => ow_append (i := 1) (n := k + 1) (m := 1) (c := 1) (news := [.int .u8 (r : Int)]) (ad := ⟨gn, 0, none⟩) (sz := 1) (cur := cur) (g := g) hm elByteI ?h1 ?h2 ?h3 ?h4 HR.out.1 ?h5 ?h6 hnw ?h7 ?h8 ?h9 ?h10)
      case h1 => rfl
      case h2 => rfl
      case h3 => rfl
      case h4 => rfl
      case h5 => have := HR.out.2.2.1; omega
      case h6 => rfl
      case h7 => simp [Value.oneCell']
      case h8 => omega
      case h9 => omega
      clear hn8 hi
      intro g' cap' cur' w7 hm' p1 p2 p3 p4 p5 p6; clear hm; have hm := hm'; clear hm'; refine hK _ _ ?_; clear hK K; simp only [Act.put, k1, k2, k3]
      have HP := hid (rowB_push HR.out p1 p2 p3 p4 (by rw [p5 0 (by omega), HX.out]; rfl))
      clear p1 p2 p3 p4 p5 p6
      go_wp2_with ((first | refine wpList_skip (by rfl) ?_ | (refine wlL (hm := hm) (hu := by first | exact undID | exact undLabel) (hi := by (try simp only [rowOf_size, idC_size]); first | exact sizeID | exact sizeLabel) (h := ?_); (try simp only [Act.put, k1, k2, k3]); (try simp only [← labV_eq, ← idV_eq])) | refine wlLC (hm := hm) (hu := by first | exact undByteI | exact undInt | exact undU64) (h := ?_) | (refine wlS (hm := hm) (hv := (by first | rfl | exact idV_eq _ | exact labV_eq _ _ | exact rectV_eq _ _ _ _)) (hi := by (try simp only [rowOf_size, idC_size]); first | exact sizeID | exact sizeLabel) (hs := by first | (simp only [rowOf_size, idC_size]; done) | rfl) (h1 := by first | rfl | exact idC_one _ | exact rowOf_one _ _ (fun _ _ => rfl) | (simp only [List.size_toArray, List.length_cons, List.all_toArray', List.all_cons, List.all_nil, Value.oneCell', Bool.and_true, Bool.and_self]; done) | (simp [Value.oneCell']; done)) (h := ?_); clear hm; intro w1 hm; (try simp only [rowOf_set, k1, k2, k3, Value.cells, Act.eval, k7, k8, k9, kA, Option.getD_some] at hm)) | (refine wlSC (hm := hm) (hi := by first | exact sizeByteI | exact sizeInt | exact sizeU64) (ho := by first | decide | (simp only [rowOf_size, idC_size]; omega) | (simp; done)) (h := ?_); clear hm; intro w1 hm; (try simp only [rowOf_set, k1, k2, k3, Value.cells, Act.eval, k7, k8, k9, kA, Option.getD_some] at hm)) | (refine wlA (hz := by first | exact zeroID | exact zeroLabel) (hm := hm) (h := ?_); clear hm; intro b1 w1 hm; (try simp only [rowOf_set, k1, k2, k3, Value.cells, Act.eval, k7, k8, k9, kA, Option.getD_some] at hm)) | (refine wl_box (by rfl) rfl (by first | exact idV_cells _ | exact labV_cells _ _ | exact rectV_cells _ _ _ _ | rfl) hm ?_; clear hm; intro b1 w1 hm) | (go_at_call 33; refine (hi _).mono ?_; rintro e w1 ⟨rfl, hx⟩; replace hm := hm.call hx; clear hx) | (with_reducible first | refine stBs ?_ | refine stMs ?_ | refine stAp ?_ | refine stCo ?_ | (show wpList _ _ _ (⟨_, .convert 71 9 _, _, _, _, _⟩ :: _) _ _; refine Stop.mk ?_))); (try simp only [k4, k5, k6, Act.put, k1, k2, k3]))
      go_roundw
      case rel => exact ⟨k + 1, at' + 8, g', cap', cur', by have := HA.out; omega, HA.out.1, by go_num, rfl, HP, hm.tail⟩
      case measure => (have := HA.out; simp [intOf]; try omega)
    · obtain rfl : k = m := by omega
      have hlt : ¬ at' < n := by have := (HM.out k).2; omega
      have hs3 : ¬ 9223372036854775807 < B.size + (k + 1) := by have := HB.out; have := HN.out; omega
      clear hk hat hkm
      go_wp2_with ((first | refine wpList_skip (by rfl) ?_ | (refine wlL (hm := hm) (hu := by first | exact undID | exact undLabel) (hi := by (try simp only [rowOf_size, idC_size]); first | exact sizeID | exact sizeLabel) (h := ?_); (try simp only [Act.put, k1, k2, k3]); (try simp only [← labV_eq, ← idV_eq])) | refine wlLC (hm := hm) (hu := by first | exact undByteI | exact undInt | exact undU64) (h := ?_) | (refine wlS (hm := hm) (hv := (by first | rfl | exact idV_eq _ | exact labV_eq _ _ | exact rectV_eq _ _ _ _)) (hi := by (try simp only [rowOf_size, idC_size]); first | exact sizeID | exact sizeLabel) (hs := by first | (simp only [rowOf_size, idC_size]; done) | rfl) (h1 := by first | rfl | exact idC_one _ | exact rowOf_one _ _ (fun _ _ => rfl) | (simp only [List.size_toArray, List.length_cons, List.all_toArray', List.all_cons, List.all_nil, Value.oneCell', Bool.and_true, Bool.and_self]; done) | (simp [Value.oneCell']; done)) (h := ?_); clear hm; intro w1 hm; (try simp only [rowOf_set, k1, k2, k3, Value.cells, Act.eval, k7, k8, k9, kA, Option.getD_some] at hm)) | (refine wlSC (hm := hm) (hi := by first | exact sizeByteI | exact sizeInt | exact sizeU64) (ho := by first | decide | (simp only [rowOf_size, idC_size]; omega) | (simp; done)) (h := ?_); clear hm; intro w1 hm; (try simp only [rowOf_set, k1, k2, k3, Value.cells, Act.eval, k7, k8, k9, kA, Option.getD_some] at hm)) | (refine wlA (hz := by first | exact zeroID | exact zeroLabel) (hm := hm) (h := ?_); clear hm; intro b1 w1 hm; (try simp only [rowOf_set, k1, k2, k3, Value.cells, Act.eval, k7, k8, k9, kA, Option.getD_some] at hm)) | (refine wl_box (by rfl) rfl (by first | exact idV_cells _ | exact labV_cells _ _ | exact rectV_cells _ _ _ _ | rfl) hm ?_; clear hm; intro b1 w1 hm) | (go_at_call 33; refine (hi _).mono ?_; rintro e w1 ⟨rfl, hx⟩; replace hm := hm.call hx; clear hx) | (with_reducible first | refine stBs ?_ | refine stMs ?_ | refine stAp ?_ | refine stCo ?_ | (show wpList _ _ _ (⟨_, .convert 71 9 _, _, _, _, _⟩ :: _) _ _; refine Stop.mk ?_))); (try simp only [k4, k5, k6, Act.put, k1, k2, k3]))
      have hr := HR.out
      have hrs := run_toString (P := Try.prog) undBytesI undByteI undStrI hm (i := 0) (off := 0) (n := k + 1) (cap := cap) rfl F (fun j hj => by rw [Nat.zero_add]; exact hr.2.2.2 j hj)
      clear hr
      refine Stop.go ?_
      go_wp2
      go_ret2
      exact ⟨rfl, hm.ext⟩
theorem lab_step (n b k : Nat) (hk : k < (n + 7) / 8) (hn : n ≤ 64) : b * 256 ^ k % 2 ^ 64 / 2 ^ 56 = labF n b (k + 1) ∧ b * 256 ^ k % 2 ^ 64 * 256 % 2 ^ 64 = b * 256 ^ (k + 1) % 2 ^ 64 := by
  constructor
  · unfold labF
    rw [if_neg (by omega), show (256 : Nat) ^ k = 2 ^ (8 * k) from by rw [show (256 : Nat) = 2 ^ 8 from rfl, ← Nat.pow_mul], show (2 : Nat) ^ 64 = 2 ^ (64 - 8 * k) * 2 ^ (8 * k) from by rw [← Nat.pow_add]; congr 1; omega,
      Nat.mul_mod_mul_right, show (2 : Nat) ^ 56 = 2 ^ (56 - 8 * k) * 2 ^ (8 * k) from by rw [← Nat.pow_add]; congr 1; omega, Nat.mul_div_mul_right _ _ (Nat.pow_pos (by omega)),
      show 64 - 8 * (k + 1) = 56 - 8 * k from by omega, show 64 - 8 * k = 56 - 8 * k + 8 from by omega, Nat.pow_add, Nat.mod_mul_right_div_self]
  · rw [show (256 : Nat) ^ (k + 1) = 256 ^ k * 256 from Nat.pow_succ .., ← Nat.mul_assoc]
    generalize b * 256 ^ k = X
    omega
theorem refLabel_c (n b : Nat) (hn : n ≤ 64) (hb : b < 2 ^ 64) : Says 17 #[labV (n : Int) b] (.string (bytesB ((n + 7) / 8 + 1) (labF n b))) := by
  intro w
  have HS := hid (fun k hk => lab_step n b k hk hn)
  have HM := hid (show ∀ k, (k < (n + 7) / 8 ↔ 8 * k < n) from fun k => by omega)
  have H0 := hid (show (bytesB 1 fun _ => n % 256) = bytesB 1 (labF n b) from bytesB_congr fun j hj => by unfold labF; rw [if_pos (by omega)]; omega)
  have HL := hid (show ∀ k x, labF n b (k + 1) = x → x < 256 → bytesB (k + 1) (labF n b) ++ (bytesB 1 fun _ => x % 256) = bytesB (k + 2) (labF n b) from fun k x hx hlt => by
    rw [bytesB_append]
    refine bytesB_congr fun j hj => ?_
    split
    · rfl
    · rw [show j = k + 1 from by omega, hx]; omega)
  have HZ := hid (show b = b * 256 ^ 0 % 2 ^ 64 from by omega)
  have HFL := hid (show ∀ k, labF n b (k + 1) < 256 from fun k => by unfold labF; rw [if_neg (by omega)]; omega)
  obtain ⟨F, hF⟩ : ∃ F, labF n b = F := ⟨_, rfl⟩
  rw [hF] at HS H0 HL HFL ⊢
  clear hF
  obtain ⟨m, hmm⟩ : ∃ m, (n + 7) / 8 = m := ⟨_, rfl⟩
  rw [hmm] at HS HM ⊢
  have HN := hid (show n ≤ 64 ∧ m ≤ 8 from ⟨hn, by omega⟩)
  have f5 : IntKind.u64.wrap (n : Int) = (n : Int) := wrap_u64 (by omega) (by omega)
  have ho := one_c n (by omega)
  rw [H0.out] at ho
  obtain ⟨A, hA⟩ : ∃ A, bytesB 1 F = A := ⟨_, rfl⟩
  rw [hA] at ho
  have HA0 := hid hA
  clear hmm hn hA H0
  go_enter Try.func17, Try.ntmps17
  have hm := Mem.refl w []
  go_wp2_with (with_reducible first | refine stAl ?_ | refine stBo ?_ | refine stLo ?_ | refine stSo ?_ | refine stBu ?_ | refine stBs ?_ | refine stMs ?_ | refine stAp ?_ | refine stCo ?_ | (show wpList _ _ _ (⟨_, .convert 71 9 _, _, _, _, _⟩ :: _) _ _; refine Stop.mk ?_)); refine Stop.go (wl_box (by rfl) rfl (labV_cells (n : Int) b) hm ?_); clear hm; intro b1 w1 hm; simp only [Act.put, k1, k2, k3]; (try simp only [rowOf_set, k1, k2, k3, Value.cells, Act.eval, k7, k8, k9, kA, Option.getD_some] at hm)
  go_wp2_with ((first | refine wpList_skip (by rfl) ?_ | (refine wlL (hm := hm) (hu := by first | exact undID | exact undLabel) (hi := by (try simp only [rowOf_size, idC_size]); first | exact sizeID | exact sizeLabel) (h := ?_); (try simp only [Act.put, k1, k2, k3]); (try simp only [← labV_eq, ← idV_eq])) | refine wlLC (hm := hm) (hu := by first | exact undByteI | exact undInt | exact undU64) (h := ?_) | (refine wlS (hm := hm) (hv := (by first | rfl | exact idV_eq _ | exact labV_eq _ _ | exact rectV_eq _ _ _ _)) (hi := by (try simp only [rowOf_size, idC_size]); first | exact sizeID | exact sizeLabel) (hs := by first | (simp only [rowOf_size, idC_size]; done) | rfl) (h1 := by first | rfl | exact idC_one _ | exact rowOf_one _ _ (fun _ _ => rfl) | (simp only [List.size_toArray, List.length_cons, List.all_toArray', List.all_cons, List.all_nil, Value.oneCell', Bool.and_true, Bool.and_self]; done) | (simp [Value.oneCell']; done)) (h := ?_); clear hm; intro w1 hm; (try simp only [rowOf_set, k1, k2, k3, Value.cells, Act.eval, k7, k8, k9, kA, Option.getD_some] at hm)) | (refine wlSC (hm := hm) (hi := by first | exact sizeByteI | exact sizeInt | exact sizeU64) (ho := by first | decide | (simp only [rowOf_size, idC_size]; omega) | (simp; done)) (h := ?_); clear hm; intro w1 hm; (try simp only [rowOf_set, k1, k2, k3, Value.cells, Act.eval, k7, k8, k9, kA, Option.getD_some] at hm)) | (refine wlA (hz := by first | exact zeroID | exact zeroLabel) (hm := hm) (h := ?_); clear hm; intro b1 w1 hm; (try simp only [rowOf_set, k1, k2, k3, Value.cells, Act.eval, k7, k8, k9, kA, Option.getD_some] at hm)) | (refine wl_box (by rfl) rfl (by first | exact idV_cells _ | exact labV_cells _ _ | exact rectV_cells _ _ _ _ | rfl) hm ?_; clear hm; intro b1 w1 hm) | (go_at_call 46; refine (ho _).mono ?_; rintro e w1 ⟨rfl, hx⟩; replace hm := hm.call hx; clear hx) | (with_reducible first | refine stBs ?_ | refine stMs ?_ | refine stAp ?_ | refine stCo ?_ | (show wpList _ _ _ (⟨_, .convert 71 9 _, _, _, _, _⟩ :: _) _ _; refine Stop.mk ?_))); (try simp only [k4, k5, k6, Act.put, k1, k2, k3]))
  clear ho
  go_loopw [3, 4, 5] (fun vo vv vn wr => ∃ (k x at' : Nat), k ≤ m ∧ 8 * k = at' ∧ Hid (b * 256 ^ k % 2 ^ 64 = x) ∧ vn = .int .i64 (at' : Int) ∧ vv = .int .u64 (x : Int) ∧ vo = .string (bytesB (k + 1) F) ∧ Mem w [] [(b1, .cells #[.int .i64 (n : Int), .int .u64 (b : Int)] 26 (0, 0))] wr)
    (fun _ _ vn _ => (100 - intOf vn).toNat)
  case atStart => exact ⟨0, b, 0, by omega, rfl, hid HZ.out.symm, rfl, rfl, by rw [HA0.out], hm⟩
  case round =>
    clear hm
    obtain ⟨k, x, at', hk, hat, HX, rfl, rfl, rfl, hm⟩ := hrel
    by_cases hkm : k < m
    · have hlt : at' < n := by have := (HM.out k).1 hkm; omega
      have hl2 : (at' : Int) < (n : Int) := by omega
      have hn8 := HN.out
      obtain ⟨e1, e2⟩ := HS.out k hkm
      rw [HX.out] at e1 e2
      have hx64 : x < 2 ^ 64 := by rw [← HX.out]; exact Nat.mod_lt _ (by decide)
      obtain ⟨y, hy⟩ : ∃ y, x / 2 ^ 56 = y := ⟨_, rfl⟩
      rw [hy] at e1
      have hy8 : y < 256 := by rw [e1]; exact HFL.out k
      obtain ⟨x', hx'⟩ : ∃ x', x * 256 % 2 ^ 64 = x' := ⟨_, rfl⟩
      have hpush := HL.out k y e1.symm hy8
      have ho := one_c y (by omega)
      have hs1 := bytesB_size (k + 1) F
      have hs2 := bytesB_size 1 (fun _ => y % 256)
      have g2 : (x : Int) / 72057594037927936 = (y : Int) := by rw [← hy]; omega
      have g3 : IntKind.u64.wrap ((x : Int) * 256) = (x' : Int) := by
        rw [show (x : Int) * 256 = ((x * 256 : Nat) : Int) from by push_cast; rfl, ← hx']
        simp only [IntKind.wrap, IntKind.signed, IntKind.bits]
        simp
      have g4 : IntKind.i64.wrap ((at' : Int) + 8) = (at' : Int) + 8 := wrap_i64 (by omega) (by omega)
      have hs3 : ¬ 9223372036854775807 < k + 1 + 1 := by omega
      obtain ⟨B, hB⟩ : ∃ B, bytesB (k + 1) F = B := ⟨_, rfl⟩
      obtain ⟨C, hC'⟩ : ∃ C, (bytesB 1 fun _ => y % 256) = C := ⟨_, rfl⟩
      rw [hB] at hpush hs1 ⊢
      rw [hC'] at hpush hs2 ho
      have HU := hid hpush
      have HX2 := hid (show b * 256 ^ (k + 1) % 2 ^ 64 = x' from by rw [← e2, hx'])
      have HA := hid (show 8 * (k + 1) = at' + 8 ∧ k < m ∧ at' < 64 from ⟨by omega, hkm, by omega⟩)
      clear hB hC' hpush hx' hy8 hy e1 e2 hx64 hn8 hk hat hkm HX
      go_wp2_with ((first | refine wpList_skip (by rfl) ?_ | (refine wlL (hm := hm) (hu := by first | exact undID | exact undLabel) (hi := by (try simp only [rowOf_size, idC_size]); first | exact sizeID | exact sizeLabel) (h := ?_); (try simp only [Act.put, k1, k2, k3]); (try simp only [← labV_eq, ← idV_eq])) | refine wlLC (hm := hm) (hu := by first | exact undByteI | exact undInt | exact undU64) (h := ?_) | (refine wlS (hm := hm) (hv := (by first | rfl | exact idV_eq _ | exact labV_eq _ _ | exact rectV_eq _ _ _ _)) (hi := by (try simp only [rowOf_size, idC_size]); first | exact sizeID | exact sizeLabel) (hs := by first | (simp only [rowOf_size, idC_size]; done) | rfl) (h1 := by first | rfl | exact idC_one _ | exact rowOf_one _ _ (fun _ _ => rfl) | (simp only [List.size_toArray, List.length_cons, List.all_toArray', List.all_cons, List.all_nil, Value.oneCell', Bool.and_true, Bool.and_self]; done) | (simp [Value.oneCell']; done)) (h := ?_); clear hm; intro w1 hm; (try simp only [rowOf_set, k1, k2, k3, Value.cells, Act.eval, k7, k8, k9, kA, Option.getD_some] at hm)) | (refine wlSC (hm := hm) (hi := by first | exact sizeByteI | exact sizeInt | exact sizeU64) (ho := by first | decide | (simp only [rowOf_size, idC_size]; omega) | (simp; done)) (h := ?_); clear hm; intro w1 hm; (try simp only [rowOf_set, k1, k2, k3, Value.cells, Act.eval, k7, k8, k9, kA, Option.getD_some] at hm)) | (refine wlA (hz := by first | exact zeroID | exact zeroLabel) (hm := hm) (h := ?_); clear hm; intro b1 w1 hm; (try simp only [rowOf_set, k1, k2, k3, Value.cells, Act.eval, k7, k8, k9, kA, Option.getD_some] at hm)) | (refine wl_box (by rfl) rfl (by first | exact idV_cells _ | exact labV_cells _ _ | exact rectV_cells _ _ _ _ | rfl) hm ?_; clear hm; intro b1 w1 hm) | (go_at_call 46; refine (ho _).mono ?_; rintro e w1 ⟨rfl, hx⟩; replace hm := hm.call hx; clear hx) | (with_reducible first | refine stBs ?_ | refine stMs ?_ | refine stAp ?_ | refine stCo ?_ | (show wpList _ _ _ (⟨_, .convert 71 9 _, _, _, _, _⟩ :: _) _ _; refine Stop.mk ?_))); (try simp only [k4, k5, k6, Act.put, k1, k2, k3]))
      go_roundw
      case rel => exact ⟨k + 1, x', at' + 8, by have := HA.out; omega, HA.out.1, HX2, by go_num, rfl, by rw [HU.out], hm⟩
      case measure => (have := HA.out; simp [intOf]; try omega)
    · obtain rfl : k = m := by omega
      have hlt : ¬ at' < n := by have := (HM.out k).2; omega
      clear hk hat hkm
      go_wp2_with ((first | refine wpList_skip (by rfl) ?_ | (refine wlL (hm := hm) (hu := by first | exact undID | exact undLabel) (hi := by (try simp only [rowOf_size, idC_size]); first | exact sizeID | exact sizeLabel) (h := ?_); (try simp only [Act.put, k1, k2, k3]); (try simp only [← labV_eq, ← idV_eq])) | refine wlLC (hm := hm) (hu := by first | exact undByteI | exact undInt | exact undU64) (h := ?_) | (refine wlS (hm := hm) (hv := (by first | rfl | exact idV_eq _ | exact labV_eq _ _ | exact rectV_eq _ _ _ _)) (hi := by (try simp only [rowOf_size, idC_size]); first | exact sizeID | exact sizeLabel) (hs := by first | (simp only [rowOf_size, idC_size]; done) | rfl) (h1 := by first | rfl | exact idC_one _ | exact rowOf_one _ _ (fun _ _ => rfl) | (simp only [List.size_toArray, List.length_cons, List.all_toArray', List.all_cons, List.all_nil, Value.oneCell', Bool.and_true, Bool.and_self]; done) | (simp [Value.oneCell']; done)) (h := ?_); clear hm; intro w1 hm; (try simp only [rowOf_set, k1, k2, k3, Value.cells, Act.eval, k7, k8, k9, kA, Option.getD_some] at hm)) | (refine wlSC (hm := hm) (hi := by first | exact sizeByteI | exact sizeInt | exact sizeU64) (ho := by first | decide | (simp only [rowOf_size, idC_size]; omega) | (simp; done)) (h := ?_); clear hm; intro w1 hm; (try simp only [rowOf_set, k1, k2, k3, Value.cells, Act.eval, k7, k8, k9, kA, Option.getD_some] at hm)) | (refine wlA (hz := by first | exact zeroID | exact zeroLabel) (hm := hm) (h := ?_); clear hm; intro b1 w1 hm; (try simp only [rowOf_set, k1, k2, k3, Value.cells, Act.eval, k7, k8, k9, kA, Option.getD_some] at hm)) | (refine wl_box (by rfl) rfl (by first | exact idV_cells _ | exact labV_cells _ _ | exact rectV_cells _ _ _ _ | rfl) hm ?_; clear hm; intro b1 w1 hm) | (go_at_call 46; refine (ho _).mono ?_; rintro e w1 ⟨rfl, hx⟩; replace hm := hm.call hx; clear hx) | (with_reducible first | refine stBs ?_ | refine stMs ?_ | refine stAp ?_ | refine stCo ?_ | (show wpList _ _ _ (⟨_, .convert 71 9 _, _, _, _, _⟩ :: _) _ _; refine Stop.mk ?_))); (try simp only [k4, k5, k6, Act.put, k1, k2, k3]))
      go_ret
      exact ⟨rfl, hm.ext⟩
end Go.Proofs.Ytijkmbebfodhdaa

/- (WirD)
  Wire: a reader: what is left, taken, a number.
-/
namespace Go.Proofs.Ytijkmbebfodhdaa
open Go.RowKit
set_option linter.unusedSimpArgs false
set_option linter.unusedVariables false
set_option maxHeartbeats 1000000
set_option maxRecDepth 20000

/-- Behind a callee that owned one block of ours, wherever it stands in the list. -/
theorem Mem.callAt {w0 w w' : World} {own : List Nat} {L : List (Nat × Obj)} {i b : Nat} {o o' : Obj} (h : Mem w0 own L w) (hi : L[i]? = some (b, o)) (hx : Mem w [b] [(b, o')] w') : Mem w0 own (L.set i (b, o')) w' := by
  have hil : i < L.length := (List.getElem?_eq_some_iff.1 hi).1
  have hmem : (b, o) ∈ L := List.mem_of_getElem? hi
  have hfst : ∀ j p, (L.set i (b, o'))[j]? = some p → ∃ q, L[j]? = some q ∧ q.1 = p.1 ∧ (j ≠ i → q = p) := fun j p hj => by
    by_cases hji : j = i
    · subst hji
      rw [List.getElem?_set_self hil] at hj
      exact ⟨_, hi, by rw [← Option.some.inj hj], fun h => (h rfl).elim⟩
    · rw [List.getElem?_set_ne (fun e => hji e.symm)] at hj
      exact ⟨p, hj, rfl, fun _ => rfl⟩
  refine ⟨hx.os.trans h.os, hx.tape.trans h.tape, hx.output.trans h.output, Nat.le_trans h.size hx.size, fun k hk hn => ?_, fun p hp => ?_, fun p hp => ?_, fun j k p q hj hk e => ?_⟩
  · have hkb : k ∉ [b] := fun hq => by
      rw [List.mem_singleton] at hq
      subst hq
      rcases h.may _ hmem with hm | hm
      · have : w0.heap.size ≤ k := hm; omega
      · exact hn hm
    rw [hx.old k (Nat.lt_of_lt_of_le hk h.size) hkb]
    exact h.old k hk hn
  · obtain ⟨j, hj⟩ := List.mem_iff_getElem?.1 hp
    by_cases hji : j = i
    · subst hji
      rw [List.getElem?_set_self hil] at hj
      rw [← Option.some.inj hj]
      exact hx.has _ (List.mem_singleton.2 rfl)
    · rw [List.getElem?_set_ne (fun e => hji e.symm)] at hj
      have hpL := List.mem_of_getElem? hj
      have hne : p.1 ∉ [b] := fun hq => by
        rw [List.mem_singleton] at hq
        exact hji (h.apart j i _ _ hj hi hq)
      rw [hx.old p.1 (h.lt hpL) hne]
      exact h.has p hpL
  · obtain ⟨j, hj⟩ := List.mem_iff_getElem?.1 hp
    obtain ⟨q, hq, e, _⟩ := hfst j p hj
    rw [← e]
    exact h.may q (List.mem_of_getElem? hq)
  · obtain ⟨p', hp', e1, _⟩ := hfst j p hj
    obtain ⟨q', hq', e2, _⟩ := hfst k q hk
    exact h.apart j k p' q' hp' hq' (by rw [e1, e2, e])

theorem undStr : Try.prog.underlying 9 = some .string := by kernel_rfl
theorem sizeStr : (Try.prog.info? 9).map (·.size) = some 1 := by kernel_rfl
theorem built_rd (s : ByteArray) : Try.prog.built 76 [(0, .string s)] = some #[.string s] := by kernel_rfl
/-- A call on a reader: it had s, and has r now. -/
def Takes (f : FuncId) (args : Array Value) (b : Nat) (s : ByteArray) (v : Value) (r : ByteArray) : Prop :=
  ∀ w, w.heap[b]? = some (.cells #[.string s] 76 (0, 0)) → Calls Try.prog f args w fun e w' => e = .returned v ∧ Mem w [b] [(b, .cells #[.string r] 76 (0, 0))] w'
attribute [local irreducible] wpQuiet wpList wpAnyH Calls

theorem new_c (s : ByteArray) (w : World) : Calls Try.prog 23 #[.string s] w fun e w' => ∃ b, e = .returned (.pointer (some ⟨b, 0, none⟩)) ∧ Mem w [] [(b, .cells #[.string s] 76 (0, 0))] w' := by
  go_enter Try.func23, Try.ntmps23
  have hm := Mem.refl w []
  go_wp2_with ((first | refine wpList_skip (by rfl) ?_ | (refine wlL (hm := hm) (hu := by first | exact undID | exact undLabel) (hi := by (try simp only [rowOf_size, idC_size]); first | exact sizeID | exact sizeLabel) (h := ?_); (try simp only [Act.put, k1, k2, k3]); (try simp only [← labV_eq, ← idV_eq])) | refine wlLC (hm := hm) (hu := by first | exact undStr | exact undByteI | exact undInt | exact undU64) (h := ?_) | (refine wlS (hm := hm) (hv := (by first | rfl | exact idV_eq _ | exact labV_eq _ _ | exact rectV_eq _ _ _ _)) (hi := by (try simp only [rowOf_size, idC_size]); first | exact sizeID | exact sizeLabel) (hs := by first | (simp only [rowOf_size, idC_size]; done) | rfl) (h1 := by first | rfl | exact idC_one _ | exact rowOf_one _ _ (fun _ _ => rfl) | (simp only [List.size_toArray, List.length_cons, List.all_toArray', List.all_cons, List.all_nil, Value.oneCell', Bool.and_true, Bool.and_self]; done) | (simp [Value.oneCell']; done)) (h := ?_); clear hm; intro w1 hm; (try simp only [rowOf_set, k1, k2, k3, Value.cells, Act.eval, k7, k8, k9, kA, Option.getD_some] at hm)) | (refine wlSC (hm := hm) (hi := by first | exact sizeStr | exact sizeByteI | exact sizeInt | exact sizeU64) (ho := by first | decide | (simp only [rowOf_size, idC_size]; omega) | (simp; done)) (h := ?_); clear hm; intro w1 hm; (try simp only [rowOf_set, k1, k2, k3, Value.cells, Act.eval, k7, k8, k9, kA, Option.getD_some] at hm)) | (refine wlA (hz := by first | exact zeroID | exact zeroLabel) (hm := hm) (h := ?_); clear hm; intro b1 w1 hm; (try simp only [rowOf_set, k1, k2, k3, Value.cells, Act.eval, k7, k8, k9, kA, Option.getD_some] at hm)) | (refine wl_box (by rfl) rfl (by first | exact idV_cells _ | exact labV_cells _ _ | exact rectV_cells _ _ _ _ | rfl) hm ?_; clear hm; intro b1 w1 hm) | (refine wl_build (by rfl) (built_rd _) rfl ?_; (try simp only [Act.put, k1, k2, k3]); (try simp only [← labV_eq, ← idV_eq])) | (with_reducible first | refine stBs ?_ | refine stMs ?_ | refine stAp ?_ | refine stCo ?_)); (try simp only [k4, k5, k6, Act.put, k1, k2, k3]))
  go_ret
  exact ⟨b1, rfl, hm⟩
theorem left_nil : Says 27 #[.pointer none] (.int .i64 0) := by
  intro w
  go_enter Try.func27, Try.ntmps27
  have hm := Mem.refl w []
  go_wp2_with ((first | refine wpList_skip (by rfl) ?_ | (refine wlL (hm := hm) (hu := by first | exact undID | exact undLabel) (hi := by (try simp only [rowOf_size, idC_size]); first | exact sizeID | exact sizeLabel) (h := ?_); (try simp only [Act.put, k1, k2, k3]); (try simp only [← labV_eq, ← idV_eq])) | refine wlLC (hm := hm) (hu := by first | exact undStr | exact undByteI | exact undInt | exact undU64) (h := ?_) | (refine wlS (hm := hm) (hv := (by first | rfl | exact idV_eq _ | exact labV_eq _ _ | exact rectV_eq _ _ _ _)) (hi := by (try simp only [rowOf_size, idC_size]); first | exact sizeID | exact sizeLabel) (hs := by first | (simp only [rowOf_size, idC_size]; done) | rfl) (h1 := by first | rfl | exact idC_one _ | exact rowOf_one _ _ (fun _ _ => rfl) | (simp only [List.size_toArray, List.length_cons, List.all_toArray', List.all_cons, List.all_nil, Value.oneCell', Bool.and_true, Bool.and_self]; done) | (simp [Value.oneCell']; done)) (h := ?_); clear hm; intro w1 hm; (try simp only [rowOf_set, k1, k2, k3, Value.cells, Act.eval, k7, k8, k9, kA, Option.getD_some] at hm)) | (refine wlSC (hm := hm) (hi := by first | exact sizeStr | exact sizeByteI | exact sizeInt | exact sizeU64) (ho := by first | decide | (simp only [rowOf_size, idC_size]; omega) | (simp; done)) (h := ?_); clear hm; intro w1 hm; (try simp only [rowOf_set, k1, k2, k3, Value.cells, Act.eval, k7, k8, k9, kA, Option.getD_some] at hm)) | (refine wlA (hz := by first | exact zeroID | exact zeroLabel) (hm := hm) (h := ?_); clear hm; intro b1 w1 hm; (try simp only [rowOf_set, k1, k2, k3, Value.cells, Act.eval, k7, k8, k9, kA, Option.getD_some] at hm)) | (refine wl_box (by rfl) rfl (by first | exact idV_cells _ | exact labV_cells _ _ | exact rectV_cells _ _ _ _ | rfl) hm ?_; clear hm; intro b1 w1 hm) | (refine wl_build (by rfl) (built_rd _) rfl ?_; (try simp only [Act.put, k1, k2, k3]); (try simp only [← labV_eq, ← idV_eq])) | (with_reducible first | refine stBs ?_ | refine stMs ?_ | refine stAp ?_ | refine stCo ?_)); (try simp only [k4, k5, k6, Act.put, k1, k2, k3]))
  go_ret
  exact ⟨rfl, hm.ext⟩
theorem left_c (b : Nat) (s : ByteArray) (n : Nat) (hs : s.size = n) : Takes 27 #[.pointer (some ⟨b, 0, none⟩)] b s (.int .i64 (n : Int)) s := by
  intro w h
  go_enter Try.func27, Try.ntmps27
  have hm := Mem.start h
  go_wp2_with ((first | refine wpList_skip (by rfl) ?_ | (refine wlL (hm := hm) (hu := by first | exact undID | exact undLabel) (hi := by (try simp only [rowOf_size, idC_size]); first | exact sizeID | exact sizeLabel) (h := ?_); (try simp only [Act.put, k1, k2, k3]); (try simp only [← labV_eq, ← idV_eq])) | refine wlLC (hm := hm) (hu := by first | exact undStr | exact undByteI | exact undInt | exact undU64) (h := ?_) | (refine wlS (hm := hm) (hv := (by first | rfl | exact idV_eq _ | exact labV_eq _ _ | exact rectV_eq _ _ _ _)) (hi := by (try simp only [rowOf_size, idC_size]); first | exact sizeID | exact sizeLabel) (hs := by first | (simp only [rowOf_size, idC_size]; done) | rfl) (h1 := by first | rfl | exact idC_one _ | exact rowOf_one _ _ (fun _ _ => rfl) | (simp only [List.size_toArray, List.length_cons, List.all_toArray', List.all_cons, List.all_nil, Value.oneCell', Bool.and_true, Bool.and_self]; done) | (simp [Value.oneCell']; done)) (h := ?_); clear hm; intro w1 hm; (try simp only [rowOf_set, k1, k2, k3, Value.cells, Act.eval, k7, k8, k9, kA, Option.getD_some] at hm)) | (refine wlSC (hm := hm) (hi := by first | exact sizeStr | exact sizeByteI | exact sizeInt | exact sizeU64) (ho := by first | decide | (simp only [rowOf_size, idC_size]; omega) | (simp; done)) (h := ?_); clear hm; intro w1 hm; (try simp only [rowOf_set, k1, k2, k3, Value.cells, Act.eval, k7, k8, k9, kA, Option.getD_some] at hm)) | (refine wlA (hz := by first | exact zeroID | exact zeroLabel) (hm := hm) (h := ?_); clear hm; intro b1 w1 hm; (try simp only [rowOf_set, k1, k2, k3, Value.cells, Act.eval, k7, k8, k9, kA, Option.getD_some] at hm)) | (refine wl_box (by rfl) rfl (by first | exact idV_cells _ | exact labV_cells _ _ | exact rectV_cells _ _ _ _ | rfl) hm ?_; clear hm; intro b1 w1 hm) | (refine wl_build (by rfl) (built_rd _) rfl ?_; (try simp only [Act.put, k1, k2, k3]); (try simp only [← labV_eq, ← idV_eq])) | (with_reducible first | refine stBs ?_ | refine stMs ?_ | refine stAp ?_ | refine stCo ?_)); (try simp only [k4, k5, k6, Act.put, k1, k2, k3]))
  go_ret
  exact ⟨rfl, hm⟩
theorem take_more (b : Nat) (s : ByteArray) (m n : Nat) (hs : s.size = m) (h : m < n) : Takes 84 #[.pointer (some ⟨b, 0, none⟩), .int .i64 (n : Int)] b s (.tuple #[.string { data := #[] }, .int .i64 4]) s := by
  intro w hw
  go_enter Try.func84, Try.ntmps84
  have hm := Mem.start hw
  go_wp2_with ((first | refine wpList_skip (by rfl) ?_ | (refine wlL (hm := hm) (hu := by first | exact undID | exact undLabel) (hi := by (try simp only [rowOf_size, idC_size]); first | exact sizeID | exact sizeLabel) (h := ?_); (try simp only [Act.put, k1, k2, k3]); (try simp only [← labV_eq, ← idV_eq])) | refine wlLC (hm := hm) (hu := by first | exact undStr | exact undByteI | exact undInt | exact undU64) (h := ?_) | (refine wlS (hm := hm) (hv := (by first | rfl | exact idV_eq _ | exact labV_eq _ _ | exact rectV_eq _ _ _ _)) (hi := by (try simp only [rowOf_size, idC_size]); first | exact sizeID | exact sizeLabel) (hs := by first | (simp only [rowOf_size, idC_size]; done) | rfl) (h1 := by first | rfl | exact idC_one _ | exact rowOf_one _ _ (fun _ _ => rfl) | (simp only [List.size_toArray, List.length_cons, List.all_toArray', List.all_cons, List.all_nil, Value.oneCell', Bool.and_true, Bool.and_self]; done) | (simp [Value.oneCell']; done)) (h := ?_); clear hm; intro w1 hm; (try simp only [rowOf_set, k1, k2, k3, Value.cells, Act.eval, k7, k8, k9, kA, Option.getD_some] at hm)) | (refine wlSC (hm := hm) (hi := by first | exact sizeStr | exact sizeByteI | exact sizeInt | exact sizeU64) (ho := by first | decide | (simp only [rowOf_size, idC_size]; omega) | (simp; done)) (h := ?_); clear hm; intro w1 hm; (try simp only [rowOf_set, k1, k2, k3, Value.cells, Act.eval, k7, k8, k9, kA, Option.getD_some] at hm)) | (refine wlA (hz := by first | exact zeroID | exact zeroLabel) (hm := hm) (h := ?_); clear hm; intro b1 w1 hm; (try simp only [rowOf_set, k1, k2, k3, Value.cells, Act.eval, k7, k8, k9, kA, Option.getD_some] at hm)) | (refine wl_box (by rfl) rfl (by first | exact idV_cells _ | exact labV_cells _ _ | exact rectV_cells _ _ _ _ | rfl) hm ?_; clear hm; intro b1 w1 hm) | (refine wl_build (by rfl) (built_rd _) rfl ?_; (try simp only [Act.put, k1, k2, k3]); (try simp only [← labV_eq, ← idV_eq])) | (with_reducible first | refine stBs ?_ | refine stMs ?_ | refine stAp ?_ | refine stCo ?_)); (try simp only [k4, k5, k6, Act.put, k1, k2, k3]))
  go_ret2
  exact ⟨rfl, hm⟩
theorem take_ok (b : Nat) (s t r : ByteArray) (m n : Nat) (hs : s.size = m) (h : n ≤ m) (ht : s.extract 0 n = t) (hr : s.extract n s.size = r) : Takes 84 #[.pointer (some ⟨b, 0, none⟩), .int .i64 (n : Int)] b s (.tuple #[.string t, .int .i64 0]) r := by
  intro w hw
  have c1 := slice_to (s := s) (t := t) (n := n) (by omega) ht
  have c2 := slice_from (s := s) (t := r) (n := n) (by omega) hr
  have hnm : ¬ m < n := by omega
  clear ht hr h
  go_enter Try.func84, Try.ntmps84
  have hm := Mem.start hw
  go_wp2_with ((first | refine wpList_skip (by rfl) ?_ | (refine wlL (hm := hm) (hu := by first | exact undID | exact undLabel) (hi := by (try simp only [rowOf_size, idC_size]); first | exact sizeID | exact sizeLabel) (h := ?_); (try simp only [Act.put, k1, k2, k3]); (try simp only [← labV_eq, ← idV_eq])) | refine wlLC (hm := hm) (hu := by first | exact undStr | exact undByteI | exact undInt | exact undU64) (h := ?_) | (refine wlS (hm := hm) (hv := (by first | rfl | exact idV_eq _ | exact labV_eq _ _ | exact rectV_eq _ _ _ _)) (hi := by (try simp only [rowOf_size, idC_size]); first | exact sizeID | exact sizeLabel) (hs := by first | (simp only [rowOf_size, idC_size]; done) | rfl) (h1 := by first | rfl | exact idC_one _ | exact rowOf_one _ _ (fun _ _ => rfl) | (simp only [List.size_toArray, List.length_cons, List.all_toArray', List.all_cons, List.all_nil, Value.oneCell', Bool.and_true, Bool.and_self]; done) | (simp [Value.oneCell']; done)) (h := ?_); clear hm; intro w1 hm; (try simp only [rowOf_set, k1, k2, k3, Value.cells, Act.eval, k7, k8, k9, kA, Option.getD_some] at hm)) | (refine wlSC (hm := hm) (hi := by first | exact sizeStr | exact sizeByteI | exact sizeInt | exact sizeU64) (ho := by first | decide | (simp only [rowOf_size, idC_size]; omega) | (simp; done)) (h := ?_); clear hm; intro w1 hm; (try simp only [rowOf_set, k1, k2, k3, Value.cells, Act.eval, k7, k8, k9, kA, Option.getD_some] at hm)) | (refine wlA (hz := by first | exact zeroID | exact zeroLabel) (hm := hm) (h := ?_); clear hm; intro b1 w1 hm; (try simp only [rowOf_set, k1, k2, k3, Value.cells, Act.eval, k7, k8, k9, kA, Option.getD_some] at hm)) | (refine wl_box (by rfl) rfl (by first | exact idV_cells _ | exact labV_cells _ _ | exact rectV_cells _ _ _ _ | rfl) hm ?_; clear hm; intro b1 w1 hm) | (refine wl_build (by rfl) (built_rd _) rfl ?_; (try simp only [Act.put, k1, k2, k3]); (try simp only [← labV_eq, ← idV_eq])) | (with_reducible first | refine stBs ?_ | refine stMs ?_ | refine stAp ?_ | refine stCo ?_)); (try simp only [k4, k5, k6, Act.put, k1, k2, k3]))
  go_ret2
  exact ⟨rfl, hm⟩
end Go.Proofs.Ytijkmbebfodhdaa

/- (WirE)
  Wire: a number, a text that is read.
-/
namespace Go.Proofs.Ytijkmbebfodhdaa
open Go.RowKit
set_option linter.unusedSimpArgs false
set_option linter.unusedVariables false
set_option maxHeartbeats 1000000
set_option maxRecDepth 20000
attribute [local irreducible] wpQuiet wpList wpAnyH Calls

theorem empty_size (p : ByteArray) : p.toList.isEmpty = decide (p.size = 0) := by
  have h := str_eq p { data := #[] }
  have e : ({ data := #[] } : ByteArray).toList = [] := by decide +kernel
  rw [e] at h
  have h2 : (p.toList == []) = p.toList.isEmpty := by cases p.toList <;> rfl
  rw [← h2, h, decide_eq_decide]
  exact ⟨fun h => by rw [h]; rfl, fun h => ByteArray.ext (Array.eq_empty_of_size_eq_zero h)⟩
/-- Bytes as a number. -/
def valB (F : Nat → Nat) : Nat → Nat
  | 0 => 0
  | k + 1 => valB F k * 256 + F k
theorem valB_lt (F : Nat → Nat) (hF : ∀ k, F k < 256) : ∀ k, valB F k < 256 ^ k
  | 0 => by rw [valB]; decide
  | k + 1 => by
    have h1 := valB_lt F hF k
    have h2 := hF k
    rw [valB, Nat.pow_succ]
    omega
theorem number_err1 (b : Nat) (s r : ByteArray) (x : ByteArray) (h1 : Takes 84 #[.pointer (some ⟨b, 0, none⟩), .int .i64 1] b s (.tuple #[.string x, .int .i64 4]) r) :
    Takes 49 #[.pointer (some ⟨b, 0, none⟩)] b s (.tuple #[.int .u64 0, .int .i64 4]) r := by
  intro w hw
  go_enter Try.func49, Try.ntmps49
  have hm := Mem.start hw
  go_wp2_with ((first | refine wpList_skip (by rfl) ?_ | (refine wlL (hm := hm) (hu := by first | exact undID | exact undLabel) (hi := by (try simp only [rowOf_size, idC_size]); first | exact sizeID | exact sizeLabel) (h := ?_); (try simp only [Act.put, k1, k2, k3]); (try simp only [← labV_eq, ← idV_eq])) | refine wlLC (hm := hm) (hu := by first | exact undStr | exact undByteI | exact undInt | exact undU64) (h := ?_) | (refine wlS (hm := hm) (hv := (by first | rfl | exact idV_eq _ | exact labV_eq _ _ | exact rectV_eq _ _ _ _)) (hi := by (try simp only [rowOf_size, idC_size]); first | exact sizeID | exact sizeLabel) (hs := by first | (simp only [rowOf_size, idC_size]; done) | rfl) (h1 := by first | rfl | exact idC_one _ | exact rowOf_one _ _ (fun _ _ => rfl) | (simp only [List.size_toArray, List.length_cons, List.all_toArray', List.all_cons, List.all_nil, Value.oneCell', Bool.and_true, Bool.and_self]; done) | (simp [Value.oneCell']; done)) (h := ?_); clear hm; intro w1 hm; (try simp only [rowOf_set, k1, k2, k3, Value.cells, Act.eval, k7, k8, k9, kA, Option.getD_some] at hm)) | (refine wlSC (hm := hm) (hi := by first | exact sizeStr | exact sizeByteI | exact sizeInt | exact sizeU64) (ho := by first | decide | (simp only [rowOf_size, idC_size]; omega) | (simp; done)) (h := ?_); clear hm; intro w1 hm; (try simp only [rowOf_set, k1, k2, k3, Value.cells, Act.eval, k7, k8, k9, kA, Option.getD_some] at hm)) | (refine wlA (hz := by first | exact zeroID | exact zeroLabel) (hm := hm) (h := ?_); clear hm; intro b1 w1 hm; (try simp only [rowOf_set, k1, k2, k3, Value.cells, Act.eval, k7, k8, k9, kA, Option.getD_some] at hm)) | (refine wl_box (by rfl) rfl (by first | exact idV_cells _ | exact labV_cells _ _ | exact rectV_cells _ _ _ _ | rfl) hm ?_; clear hm; intro b1 w1 hm) | (go_at_call 84; refine (h1 _ (hm.heap (by with_reducible first | exact at0 | exact at1 | exact at2 | exact at3))).mono ?_; rintro e w1 ⟨rfl, hx⟩; replace hm := hm.callAt (by with_reducible first | exact at0 | exact at1 | exact at2 | exact at3) hx; clear hx; simp only [k2, k3] at hm) | (with_reducible first | refine stBs ?_ | refine stMs ?_ | refine stAp ?_ | refine stCo ?_)); (try simp only [k4, k5, k6, Act.put, k1, k2, k3]))
  go_ret2
  exact ⟨rfl, hm⟩
theorem number_form1 (b : Nat) (s r t0 : ByteArray) (n : Nat) (hn : 8 < n) (hI0 : ∀ w, (Instr.index 9 (.string t0) (.int .i64 0)).run Try.prog w = .ok (.int .u8 (n : Int)) w)
    (h1 : Takes 84 #[.pointer (some ⟨b, 0, none⟩), .int .i64 1] b s (.tuple #[.string t0, .int .i64 0]) r) :
    Takes 49 #[.pointer (some ⟨b, 0, none⟩)] b s (.tuple #[.int .u64 0, .int .i64 3]) r := by
  intro w hw
  go_enter Try.func49, Try.ntmps49
  have hm := Mem.start hw
  go_wp2_with ((first | refine wpList_skip (by rfl) ?_ | (refine wlL (hm := hm) (hu := by first | exact undID | exact undLabel) (hi := by (try simp only [rowOf_size, idC_size]); first | exact sizeID | exact sizeLabel) (h := ?_); (try simp only [Act.put, k1, k2, k3]); (try simp only [← labV_eq, ← idV_eq])) | refine wlLC (hm := hm) (hu := by first | exact undStr | exact undByteI | exact undInt | exact undU64) (h := ?_) | (refine wlS (hm := hm) (hv := (by first | rfl | exact idV_eq _ | exact labV_eq _ _ | exact rectV_eq _ _ _ _)) (hi := by (try simp only [rowOf_size, idC_size]); first | exact sizeID | exact sizeLabel) (hs := by first | (simp only [rowOf_size, idC_size]; done) | rfl) (h1 := by first | rfl | exact idC_one _ | exact rowOf_one _ _ (fun _ _ => rfl) | (simp only [List.size_toArray, List.length_cons, List.all_toArray', List.all_cons, List.all_nil, Value.oneCell', Bool.and_true, Bool.and_self]; done) | (simp [Value.oneCell']; done)) (h := ?_); clear hm; intro w1 hm; (try simp only [rowOf_set, k1, k2, k3, Value.cells, Act.eval, k7, k8, k9, kA, Option.getD_some] at hm)) | (refine wlSC (hm := hm) (hi := by first | exact sizeStr | exact sizeByteI | exact sizeInt | exact sizeU64) (ho := by first | decide | (simp only [rowOf_size, idC_size]; omega) | (simp; done)) (h := ?_); clear hm; intro w1 hm; (try simp only [rowOf_set, k1, k2, k3, Value.cells, Act.eval, k7, k8, k9, kA, Option.getD_some] at hm)) | (refine wlA (hz := by first | exact zeroID | exact zeroLabel) (hm := hm) (h := ?_); clear hm; intro b1 w1 hm; (try simp only [rowOf_set, k1, k2, k3, Value.cells, Act.eval, k7, k8, k9, kA, Option.getD_some] at hm)) | (refine wl_box (by rfl) rfl (by first | exact idV_cells _ | exact labV_cells _ _ | exact rectV_cells _ _ _ _ | rfl) hm ?_; clear hm; intro b1 w1 hm) | (go_at_call 84; refine (h1 _ (hm.heap (by with_reducible first | exact at0 | exact at1 | exact at2 | exact at3))).mono ?_; rintro e w1 ⟨rfl, hx⟩; replace hm := hm.callAt (by with_reducible first | exact at0 | exact at1 | exact at2 | exact at3) hx; clear hx; simp only [k2, k3] at hm) | (with_reducible first | refine stBs ?_ | refine stMs ?_ | refine stAp ?_ | refine stCo ?_)); (try simp only [k4, k5, k6, Act.put, k1, k2, k3]))
  go_ret2
  exact ⟨rfl, hm⟩
theorem number_err2 (b : Nat) (s s1 r t0 x : ByteArray) (n : Nat) (hn : ¬ 8 < n) (hI0 : ∀ w, (Instr.index 9 (.string t0) (.int .i64 0)).run Try.prog w = .ok (.int .u8 (n : Int)) w)
    (h1 : Takes 84 #[.pointer (some ⟨b, 0, none⟩), .int .i64 1] b s (.tuple #[.string t0, .int .i64 0]) s1)
    (h2 : Takes 84 #[.pointer (some ⟨b, 0, none⟩), .int .i64 (n : Int)] b s1 (.tuple #[.string x, .int .i64 4]) r) :
    Takes 49 #[.pointer (some ⟨b, 0, none⟩)] b s (.tuple #[.int .u64 0, .int .i64 4]) r := by
  intro w hw
  have f1 : IntKind.i64.wrap (n : Int) = (n : Int) := wrap_i64 (by omega) (by omega)
  go_enter Try.func49, Try.ntmps49
  have hm := Mem.start hw
  go_wp2_with ((first | refine wpList_skip (by rfl) ?_ | (refine wlL (hm := hm) (hu := by first | exact undID | exact undLabel) (hi := by (try simp only [rowOf_size, idC_size]); first | exact sizeID | exact sizeLabel) (h := ?_); (try simp only [Act.put, k1, k2, k3]); (try simp only [← labV_eq, ← idV_eq])) | refine wlLC (hm := hm) (hu := by first | exact undStr | exact undByteI | exact undInt | exact undU64) (h := ?_) | (refine wlS (hm := hm) (hv := (by first | rfl | exact idV_eq _ | exact labV_eq _ _ | exact rectV_eq _ _ _ _)) (hi := by (try simp only [rowOf_size, idC_size]); first | exact sizeID | exact sizeLabel) (hs := by first | (simp only [rowOf_size, idC_size]; done) | rfl) (h1 := by first | rfl | exact idC_one _ | exact rowOf_one _ _ (fun _ _ => rfl) | (simp only [List.size_toArray, List.length_cons, List.all_toArray', List.all_cons, List.all_nil, Value.oneCell', Bool.and_true, Bool.and_self]; done) | (simp [Value.oneCell']; done)) (h := ?_); clear hm; intro w1 hm; (try simp only [rowOf_set, k1, k2, k3, Value.cells, Act.eval, k7, k8, k9, kA, Option.getD_some] at hm)) | (refine wlSC (hm := hm) (hi := by first | exact sizeStr | exact sizeByteI | exact sizeInt | exact sizeU64) (ho := by first | decide | (simp only [rowOf_size, idC_size]; omega) | (simp; done)) (h := ?_); clear hm; intro w1 hm; (try simp only [rowOf_set, k1, k2, k3, Value.cells, Act.eval, k7, k8, k9, kA, Option.getD_some] at hm)) | (refine wlA (hz := by first | exact zeroID | exact zeroLabel) (hm := hm) (h := ?_); clear hm; intro b1 w1 hm; (try simp only [rowOf_set, k1, k2, k3, Value.cells, Act.eval, k7, k8, k9, kA, Option.getD_some] at hm)) | (refine wl_box (by rfl) rfl (by first | exact idV_cells _ | exact labV_cells _ _ | exact rectV_cells _ _ _ _ | rfl) hm ?_; clear hm; intro b1 w1 hm) | (go_at_call 84; refine (h1 _ (hm.heap (by with_reducible first | exact at0 | exact at1 | exact at2 | exact at3))).mono ?_; rintro e w1 ⟨rfl, hx⟩; replace hm := hm.callAt (by with_reducible first | exact at0 | exact at1 | exact at2 | exact at3) hx; clear hx; simp only [k2, k3] at hm) | (go_at_call 84; refine (h2 _ (hm.heap (by with_reducible first | exact at0 | exact at1 | exact at2 | exact at3))).mono ?_; rintro e w1 ⟨rfl, hx⟩; replace hm := hm.callAt (by with_reducible first | exact at0 | exact at1 | exact at2 | exact at3) hx; clear hx; simp only [k2, k3] at hm) | (with_reducible first | refine stBs ?_ | refine stMs ?_ | refine stAp ?_ | refine stCo ?_)); (try simp only [k4, k5, k6, Act.put, k1, k2, k3]))
  go_ret2
  exact ⟨rfl, hm⟩
/-- The walk behind the second take. -/
theorem number_go (b : Nat) (s s1 r t0 t : ByteArray) (n : Nat) (F : Nat → Nat) (hF : ∀ k, F k < 256) (hn : ¬ 8 < n) (ht : t.size = n) (bad : Bool) (hbad : bad = (decide (0 < n) && (F 0 == 0)))
    (hI0 : ∀ w, (Instr.index 9 (.string t0) (.int .i64 0)).run Try.prog w = .ok (.int .u8 (n : Int)) w) (hI : ∀ k : Nat, k < n → ∀ w, (Instr.index 9 (.string t) (.int .i64 (k : Int))).run Try.prog w = .ok (.int .u8 ((F k : Nat) : Int)) w)
    (h1 : Takes 84 #[.pointer (some ⟨b, 0, none⟩), .int .i64 1] b s (.tuple #[.string t0, .int .i64 0]) s1)
    (h2 : Takes 84 #[.pointer (some ⟨b, 0, none⟩), .int .i64 (n : Int)] b s1 (.tuple #[.string t, .int .i64 0]) r) :
    Takes 49 #[.pointer (some ⟨b, 0, none⟩)] b s (if bad then .tuple #[.int .u64 0, .int .i64 3] else .tuple #[.int .u64 ((valB F n : Nat) : Int), .int .i64 0]) r := by
  intro w hw
  have f1 : IntKind.i64.wrap (n : Int) = (n : Int) := wrap_i64 (by omega) (by omega)
  obtain ⟨res, hres⟩ : ∃ res, (if bad then Value.tuple #[.int .u64 0, .int .i64 3] else .tuple #[.int .u64 ((valB F n : Nat) : Int), .int .i64 0]) = res := ⟨_, rfl⟩
  rw [hres]
  have HRes := hid hres
  have HB := hid hbad
  have HF := hid hF
  have HI := hid hI
  have HN := hid hn
  clear hres hbad hF hI
  go_enter Try.func49, Try.ntmps49
  have hm := Mem.start hw
  clear hw
  go_wp2_with ((first | refine wpList_skip (by rfl) ?_ | (refine wlL (hm := hm) (hu := by first | exact undID | exact undLabel) (hi := by (try simp only [rowOf_size, idC_size]); first | exact sizeID | exact sizeLabel) (h := ?_); (try simp only [Act.put, k1, k2, k3]); (try simp only [← labV_eq, ← idV_eq])) | refine wlLC (hm := hm) (hu := by first | exact undStr | exact undByteI | exact undInt | exact undU64) (h := ?_) | (refine wlS (hm := hm) (hv := (by first | rfl | exact idV_eq _ | exact labV_eq _ _ | exact rectV_eq _ _ _ _)) (hi := by (try simp only [rowOf_size, idC_size]); first | exact sizeID | exact sizeLabel) (hs := by first | (simp only [rowOf_size, idC_size]; done) | rfl) (h1 := by first | rfl | exact idC_one _ | exact rowOf_one _ _ (fun _ _ => rfl) | (simp only [List.size_toArray, List.length_cons, List.all_toArray', List.all_cons, List.all_nil, Value.oneCell', Bool.and_true, Bool.and_self]; done) | (simp [Value.oneCell']; done)) (h := ?_); clear hm; intro w1 hm; (try simp only [rowOf_set, k1, k2, k3, Value.cells, Act.eval, k7, k8, k9, kA, Option.getD_some] at hm)) | (refine wlSC (hm := hm) (hi := by first | exact sizeStr | exact sizeByteI | exact sizeInt | exact sizeU64) (ho := by first | decide | (simp only [rowOf_size, idC_size]; omega) | (simp; done)) (h := ?_); clear hm; intro w1 hm; (try simp only [rowOf_set, k1, k2, k3, Value.cells, Act.eval, k7, k8, k9, kA, Option.getD_some] at hm)) | (refine wlA (hz := by first | exact zeroID | exact zeroLabel) (hm := hm) (h := ?_); clear hm; intro b1 w1 hm; (try simp only [rowOf_set, k1, k2, k3, Value.cells, Act.eval, k7, k8, k9, kA, Option.getD_some] at hm)) | (refine wl_box (by rfl) rfl (by first | exact idV_cells _ | exact labV_cells _ _ | exact rectV_cells _ _ _ _ | rfl) hm ?_; clear hm; intro b1 w1 hm) | (go_at_call 84; refine (h1 _ (hm.heap (by with_reducible first | exact at0 | exact at1 | exact at2 | exact at3))).mono ?_; rintro e w1 ⟨rfl, hx⟩; replace hm := hm.callAt (by with_reducible first | exact at0 | exact at1 | exact at2 | exact at3) hx; clear hx; simp only [k2, k3] at hm) | (go_at_call 84; refine (h2 _ (hm.heap (by with_reducible first | exact at0 | exact at1 | exact at2 | exact at3))).mono ?_; rintro e w1 ⟨rfl, hx⟩; replace hm := hm.callAt (by with_reducible first | exact at0 | exact at1 | exact at2 | exact at3) hx; clear hx; simp only [k2, k3] at hm) | (with_reducible first | refine stBs ?_ | refine stMs ?_ | refine stAp ?_ | refine stCo ?_)); (try simp only [k4, k5, k6, Act.put, k1, k2, k3]))
  clear h1 h2 hI0 f1 hn
  go_loopw [6, 32] (fun vv vi wr => ∃ k : Nat, k ≤ n ∧ vi = .int .i64 (k : Int) ∧ vv = .int .u64 ((valB F k : Nat) : Int) ∧ Mem w [b] [(b, .cells #[.string r] 76 (0, 0))] wr)
    (fun _ vi _ => (n - intOf vi).toNat)
  case atStart => exact ⟨0, by omega, rfl, rfl, hm⟩
  case round =>
    clear hm
    obtain ⟨k, hk, rfl, rfl, hm⟩ := hrel
    by_cases hkn : k < n
    · have hi := HI.out k hkn
      have hfk := HF.out k
      have hv := valB_lt F HF.out k
      have hp : 256 ^ k ≤ 256 ^ 7 := Nat.pow_le_pow_right (by omega) (by have := HN.out; omega)
      have HS := hid (show valB F (k + 1) = valB F k * 256 + F k from rfl)
      obtain ⟨v, hv'⟩ : ∃ v, valB F k = v := ⟨_, rfl⟩
      obtain ⟨y, hy⟩ : ∃ y, F k = y := ⟨_, rfl⟩
      rw [hv'] at hv HS ⊢
      rw [hy] at hi hfk HS
      have hv56 : v < 2 ^ 56 := by have : (256 : Nat) ^ 7 = 2 ^ 56 := by decide
                                   omega
      obtain ⟨z, hz⟩ : ∃ z, v * 256 + y = z := ⟨_, rfl⟩
      rw [hz] at HS
      obtain ⟨u, hu⟩ : ∃ u, v * 256 = u := ⟨_, rfl⟩
      have g1 : IntKind.u64.wrap ((v : Int) * 256) = (u : Int) := by rw [wrap_u64 (by omega) (by omega)]; omega
      have g2 : IntKind.u64.wrap (y : Int) = (y : Int) := wrap_u64 (by omega) (by omega)
      have g3 : bits .or .u64 (u : Int) (y : Int) = (z : Int) := by
        rw [u64_or_nat _ _ (by omega) (by omega), ← hz, ← hu]
        have := Nat.two_pow_add_eq_or_of_lt (i := 8) (show y < 2 ^ 8 by omega) v
        rw [Nat.mul_comm v 256, show (256 : Nat) = 2 ^ 8 from rfl, ← this]
      have g4 : IntKind.i64.wrap ((k : Int) + 1) = (k : Int) + 1 := wrap_i64 (by have := HN.out; omega) (by have := HN.out; omega)
      have e1 : (k : Int) < (n : Int) := by omega
      clear hv' hy hz hu hv56 hv hp hfk hk
      go_wp2_with ((first | refine wpList_skip (by rfl) ?_ | (refine wlL (hm := hm) (hu := by first | exact undID | exact undLabel) (hi := by (try simp only [rowOf_size, idC_size]); first | exact sizeID | exact sizeLabel) (h := ?_); (try simp only [Act.put, k1, k2, k3]); (try simp only [← labV_eq, ← idV_eq])) | refine wlLC (hm := hm) (hu := by first | exact undStr | exact undByteI | exact undInt | exact undU64) (h := ?_) | (refine wlS (hm := hm) (hv := (by first | rfl | exact idV_eq _ | exact labV_eq _ _ | exact rectV_eq _ _ _ _)) (hi := by (try simp only [rowOf_size, idC_size]); first | exact sizeID | exact sizeLabel) (hs := by first | (simp only [rowOf_size, idC_size]; done) | rfl) (h1 := by first | rfl | exact idC_one _ | exact rowOf_one _ _ (fun _ _ => rfl) | (simp only [List.size_toArray, List.length_cons, List.all_toArray', List.all_cons, List.all_nil, Value.oneCell', Bool.and_true, Bool.and_self]; done) | (simp [Value.oneCell']; done)) (h := ?_); clear hm; intro w1 hm; (try simp only [rowOf_set, k1, k2, k3, Value.cells, Act.eval, k7, k8, k9, kA, Option.getD_some] at hm)) | (refine wlSC (hm := hm) (hi := by first | exact sizeStr | exact sizeByteI | exact sizeInt | exact sizeU64) (ho := by first | decide | (simp only [rowOf_size, idC_size]; omega) | (simp; done)) (h := ?_); clear hm; intro w1 hm; (try simp only [rowOf_set, k1, k2, k3, Value.cells, Act.eval, k7, k8, k9, kA, Option.getD_some] at hm)) | (refine wlA (hz := by first | exact zeroID | exact zeroLabel) (hm := hm) (h := ?_); clear hm; intro b1 w1 hm; (try simp only [rowOf_set, k1, k2, k3, Value.cells, Act.eval, k7, k8, k9, kA, Option.getD_some] at hm)) | (refine wl_box (by rfl) rfl (by first | exact idV_cells _ | exact labV_cells _ _ | exact rectV_cells _ _ _ _ | rfl) hm ?_; clear hm; intro b1 w1 hm) | (go_at_call 84; refine (h1 _ (hm.heap (by with_reducible first | exact at0 | exact at1 | exact at2 | exact at3))).mono ?_; rintro e w1 ⟨rfl, hx⟩; replace hm := hm.callAt (by with_reducible first | exact at0 | exact at1 | exact at2 | exact at3) hx; clear hx; simp only [k2, k3] at hm) | (go_at_call 84; refine (h2 _ (hm.heap (by with_reducible first | exact at0 | exact at1 | exact at2 | exact at3))).mono ?_; rintro e w1 ⟨rfl, hx⟩; replace hm := hm.callAt (by with_reducible first | exact at0 | exact at1 | exact at2 | exact at3) hx; clear hx; simp only [k2, k3] at hm) | (with_reducible first | refine stBs ?_ | refine stMs ?_ | refine stAp ?_ | refine stCo ?_)); (try simp only [k4, k5, k6, Act.put, k1, k2, k3]))
      go_roundw
      case rel => exact ⟨k + 1, by omega, by go_num, by rw [HS.out], hm⟩
      case measure => (simp [intOf]; try omega)
    · obtain rfl : k = n := by omega
      clear hk hkn
      by_cases h0 : k = 0
      · subst h0
        have e0 : t.toList.isEmpty = true := by rw [empty_size, ht]; rfl
        have hb2 := HB.out
        have hrs := HRes.out
        simp only [Nat.lt_irrefl, decide_false, Bool.false_and] at hb2
        rw [hb2, if_neg (by decide)] at hrs
        have HR2 := hid hrs
        clear hrs hb2
        go_wp2_with ((first | refine wpList_skip (by rfl) ?_ | (refine wlL (hm := hm) (hu := by first | exact undID | exact undLabel) (hi := by (try simp only [rowOf_size, idC_size]); first | exact sizeID | exact sizeLabel) (h := ?_); (try simp only [Act.put, k1, k2, k3]); (try simp only [← labV_eq, ← idV_eq])) | refine wlLC (hm := hm) (hu := by first | exact undStr | exact undByteI | exact undInt | exact undU64) (h := ?_) | (refine wlS (hm := hm) (hv := (by first | rfl | exact idV_eq _ | exact labV_eq _ _ | exact rectV_eq _ _ _ _)) (hi := by (try simp only [rowOf_size, idC_size]); first | exact sizeID | exact sizeLabel) (hs := by first | (simp only [rowOf_size, idC_size]; done) | rfl) (h1 := by first | rfl | exact idC_one _ | exact rowOf_one _ _ (fun _ _ => rfl) | (simp only [List.size_toArray, List.length_cons, List.all_toArray', List.all_cons, List.all_nil, Value.oneCell', Bool.and_true, Bool.and_self]; done) | (simp [Value.oneCell']; done)) (h := ?_); clear hm; intro w1 hm; (try simp only [rowOf_set, k1, k2, k3, Value.cells, Act.eval, k7, k8, k9, kA, Option.getD_some] at hm)) | (refine wlSC (hm := hm) (hi := by first | exact sizeStr | exact sizeByteI | exact sizeInt | exact sizeU64) (ho := by first | decide | (simp only [rowOf_size, idC_size]; omega) | (simp; done)) (h := ?_); clear hm; intro w1 hm; (try simp only [rowOf_set, k1, k2, k3, Value.cells, Act.eval, k7, k8, k9, kA, Option.getD_some] at hm)) | (refine wlA (hz := by first | exact zeroID | exact zeroLabel) (hm := hm) (h := ?_); clear hm; intro b1 w1 hm; (try simp only [rowOf_set, k1, k2, k3, Value.cells, Act.eval, k7, k8, k9, kA, Option.getD_some] at hm)) | (refine wl_box (by rfl) rfl (by first | exact idV_cells _ | exact labV_cells _ _ | exact rectV_cells _ _ _ _ | rfl) hm ?_; clear hm; intro b1 w1 hm) | (go_at_call 84; refine (h1 _ (hm.heap (by with_reducible first | exact at0 | exact at1 | exact at2 | exact at3))).mono ?_; rintro e w1 ⟨rfl, hx⟩; replace hm := hm.callAt (by with_reducible first | exact at0 | exact at1 | exact at2 | exact at3) hx; clear hx; simp only [k2, k3] at hm) | (go_at_call 84; refine (h2 _ (hm.heap (by with_reducible first | exact at0 | exact at1 | exact at2 | exact at3))).mono ?_; rintro e w1 ⟨rfl, hx⟩; replace hm := hm.callAt (by with_reducible first | exact at0 | exact at1 | exact at2 | exact at3) hx; clear hx; simp only [k2, k3] at hm) | (with_reducible first | refine stBs ?_ | refine stMs ?_ | refine stAp ?_ | refine stCo ?_)); (try simp only [k4, k5, k6, Act.put, k1, k2, k3]))
        go_ret2
        exact ⟨by rw [← HR2.out] <;> rfl, hm⟩
      · have e0 : t.toList.isEmpty = false := by rw [empty_size, ht]; exact decide_eq_false h0
        have hi := HI.out 0 (by omega)
        have hi0 : ∀ w, (Instr.index 9 (.string t) (.int .i64 0)).run Try.prog w = .ok (.int .u8 ((F 0 : Nat) : Int)) w := hi
        obtain ⟨y, hy⟩ : ∃ y, F 0 = y := ⟨_, rfl⟩
        have hb2 := HB.out
        have hrs := HRes.out
        rw [hy] at hi0 hb2
        rw [decide_eq_true (by omega), Bool.true_and] at hb2
        have HR2 := hid hrs
        clear hrs hi hy
        by_cases hy0 : y = 0
        · subst hy0
          have hb3 : bad = true := by rw [hb2]; rfl
          have hrs := HR2.out
          rw [hb3, if_pos rfl] at hrs
          have HR3 := hid hrs
          clear hrs hb2 hb3
          go_wp2_with ((first | refine wpList_skip (by rfl) ?_ | (refine wlL (hm := hm) (hu := by first | exact undID | exact undLabel) (hi := by (try simp only [rowOf_size, idC_size]); first | exact sizeID | exact sizeLabel) (h := ?_); (try simp only [Act.put, k1, k2, k3]); (try simp only [← labV_eq, ← idV_eq])) | refine wlLC (hm := hm) (hu := by first | exact undStr | exact undByteI | exact undInt | exact undU64) (h := ?_) | (refine wlS (hm := hm) (hv := (by first | rfl | exact idV_eq _ | exact labV_eq _ _ | exact rectV_eq _ _ _ _)) (hi := by (try simp only [rowOf_size, idC_size]); first | exact sizeID | exact sizeLabel) (hs := by first | (simp only [rowOf_size, idC_size]; done) | rfl) (h1 := by first | rfl | exact idC_one _ | exact rowOf_one _ _ (fun _ _ => rfl) | (simp only [List.size_toArray, List.length_cons, List.all_toArray', List.all_cons, List.all_nil, Value.oneCell', Bool.and_true, Bool.and_self]; done) | (simp [Value.oneCell']; done)) (h := ?_); clear hm; intro w1 hm; (try simp only [rowOf_set, k1, k2, k3, Value.cells, Act.eval, k7, k8, k9, kA, Option.getD_some] at hm)) | (refine wlSC (hm := hm) (hi := by first | exact sizeStr | exact sizeByteI | exact sizeInt | exact sizeU64) (ho := by first | decide | (simp only [rowOf_size, idC_size]; omega) | (simp; done)) (h := ?_); clear hm; intro w1 hm; (try simp only [rowOf_set, k1, k2, k3, Value.cells, Act.eval, k7, k8, k9, kA, Option.getD_some] at hm)) | (refine wlA (hz := by first | exact zeroID | exact zeroLabel) (hm := hm) (h := ?_); clear hm; intro b1 w1 hm; (try simp only [rowOf_set, k1, k2, k3, Value.cells, Act.eval, k7, k8, k9, kA, Option.getD_some] at hm)) | (refine wl_box (by rfl) rfl (by first | exact idV_cells _ | exact labV_cells _ _ | exact rectV_cells _ _ _ _ | rfl) hm ?_; clear hm; intro b1 w1 hm) | (go_at_call 84; refine (h1 _ (hm.heap (by with_reducible first | exact at0 | exact at1 | exact at2 | exact at3))).mono ?_; rintro e w1 ⟨rfl, hx⟩; replace hm := hm.callAt (by with_reducible first | exact at0 | exact at1 | exact at2 | exact at3) hx; clear hx; simp only [k2, k3] at hm) | (go_at_call 84; refine (h2 _ (hm.heap (by with_reducible first | exact at0 | exact at1 | exact at2 | exact at3))).mono ?_; rintro e w1 ⟨rfl, hx⟩; replace hm := hm.callAt (by with_reducible first | exact at0 | exact at1 | exact at2 | exact at3) hx; clear hx; simp only [k2, k3] at hm) | (with_reducible first | refine stBs ?_ | refine stMs ?_ | refine stAp ?_ | refine stCo ?_)); (try simp only [k4, k5, k6, Act.put, k1, k2, k3]))
          go_ret2
          exact ⟨by rw [← HR3.out] <;> rfl, hm⟩
        · have hb3 : bad = false := by rw [hb2]; simp [hy0]
          have hrs := HR2.out
          rw [hb3, if_neg (by decide)] at hrs
          have HR3 := hid hrs
          have d1 : ((y : Int) == 0) = false := by rw [beq_eq_false_iff_ne]; omega
          have d2 : ¬ (y : Int) = 0 := by omega
          clear hrs hb2 hb3
          go_wp2_with ((first | refine wpList_skip (by rfl) ?_ | (refine wlL (hm := hm) (hu := by first | exact undID | exact undLabel) (hi := by (try simp only [rowOf_size, idC_size]); first | exact sizeID | exact sizeLabel) (h := ?_); (try simp only [Act.put, k1, k2, k3]); (try simp only [← labV_eq, ← idV_eq])) | refine wlLC (hm := hm) (hu := by first | exact undStr | exact undByteI | exact undInt | exact undU64) (h := ?_) | (refine wlS (hm := hm) (hv := (by first | rfl | exact idV_eq _ | exact labV_eq _ _ | exact rectV_eq _ _ _ _)) (hi := by (try simp only [rowOf_size, idC_size]); first | exact sizeID | exact sizeLabel) (hs := by first | (simp only [rowOf_size, idC_size]; done) | rfl) (h1 := by first | rfl | exact idC_one _ | exact rowOf_one _ _ (fun _ _ => rfl) | (simp only [List.size_toArray, List.length_cons, List.all_toArray', List.all_cons, List.all_nil, Value.oneCell', Bool.and_true, Bool.and_self]; done) | (simp [Value.oneCell']; done)) (h := ?_); clear hm; intro w1 hm; (try simp only [rowOf_set, k1, k2, k3, Value.cells, Act.eval, k7, k8, k9, kA, Option.getD_some] at hm)) | (refine wlSC (hm := hm) (hi := by first | exact sizeStr | exact sizeByteI | exact sizeInt | exact sizeU64) (ho := by first | decide | (simp only [rowOf_size, idC_size]; omega) | (simp; done)) (h := ?_); clear hm; intro w1 hm; (try simp only [rowOf_set, k1, k2, k3, Value.cells, Act.eval, k7, k8, k9, kA, Option.getD_some] at hm)) | (refine wlA (hz := by first | exact zeroID | exact zeroLabel) (hm := hm) (h := ?_); clear hm; intro b1 w1 hm; (try simp only [rowOf_set, k1, k2, k3, Value.cells, Act.eval, k7, k8, k9, kA, Option.getD_some] at hm)) | (refine wl_box (by rfl) rfl (by first | exact idV_cells _ | exact labV_cells _ _ | exact rectV_cells _ _ _ _ | rfl) hm ?_; clear hm; intro b1 w1 hm) | (go_at_call 84; refine (h1 _ (hm.heap (by with_reducible first | exact at0 | exact at1 | exact at2 | exact at3))).mono ?_; rintro e w1 ⟨rfl, hx⟩; replace hm := hm.callAt (by with_reducible first | exact at0 | exact at1 | exact at2 | exact at3) hx; clear hx; simp only [k2, k3] at hm) | (go_at_call 84; refine (h2 _ (hm.heap (by with_reducible first | exact at0 | exact at1 | exact at2 | exact at3))).mono ?_; rintro e w1 ⟨rfl, hx⟩; replace hm := hm.callAt (by with_reducible first | exact at0 | exact at1 | exact at2 | exact at3) hx; clear hx; simp only [k2, k3] at hm) | (with_reducible first | refine stBs ?_ | refine stMs ?_ | refine stAp ?_ | refine stCo ?_)); (try simp only [k4, k5, k6, Act.put, k1, k2, k3]))
          go_ret2
          exact ⟨by rw [← HR3.out] <;> rfl, hm⟩
end Go.Proofs.Ytijkmbebfodhdaa

/- (WirF)
  Wire: a reader's Number.
-/
namespace Go.Proofs.Ytijkmbebfodhdaa
open Go.RowKit
set_option linter.unusedSimpArgs false
set_option linter.unusedVariables false
set_option maxHeartbeats 1000000
set_option maxRecDepth 20000
attribute [local irreducible] wpQuiet wpList wpAnyH Calls

theorem readU_nil (g : Value) : Says 48 #[.pointer none, g] (.tuple #[.int .u64 0, .int .i64 6]) := by
  intro w
  go_enter Try.func48, Try.ntmps48
  have hm := Mem.refl w []
  go_wp2_with ((first | refine wpList_skip (by rfl) ?_ | (refine wlL (hm := hm) (hu := by first | exact undID | exact undLabel) (hi := by (try simp only [rowOf_size, idC_size]); first | exact sizeID | exact sizeLabel) (h := ?_); (try simp only [Act.put, k1, k2, k3]); (try simp only [← labV_eq, ← idV_eq])) | refine wlLC (hm := hm) (hu := by first | exact undStr | exact undByteI | exact undInt | exact undU64) (h := ?_) | (refine wlS (hm := hm) (hv := (by first | rfl | exact idV_eq _ | exact labV_eq _ _ | exact rectV_eq _ _ _ _)) (hi := by (try simp only [rowOf_size, idC_size]); first | exact sizeID | exact sizeLabel) (hs := by first | (simp only [rowOf_size, idC_size]; done) | rfl) (h1 := by first | rfl | exact idC_one _ | exact rowOf_one _ _ (fun _ _ => rfl) | (simp only [List.size_toArray, List.length_cons, List.all_toArray', List.all_cons, List.all_nil, Value.oneCell', Bool.and_true, Bool.and_self]; done) | (simp [Value.oneCell']; done)) (h := ?_); clear hm; intro w1 hm; (try simp only [rowOf_set, k1, k2, k3, Value.cells, Act.eval, k7, k8, k9, kA, Option.getD_some] at hm)) | (refine wlSC (hm := hm) (hi := by first | exact sizeStr | exact sizeByteI | exact sizeInt | exact sizeU64) (ho := by first | decide | (simp only [rowOf_size, idC_size]; omega) | (simp; done)) (h := ?_); clear hm; intro w1 hm; (try simp only [rowOf_set, k1, k2, k3, Value.cells, Act.eval, k7, k8, k9, kA, Option.getD_some] at hm)) | (refine wlA (hz := by first | exact zeroID | exact zeroLabel) (hm := hm) (h := ?_); clear hm; intro b1 w1 hm; (try simp only [rowOf_set, k1, k2, k3, Value.cells, Act.eval, k7, k8, k9, kA, Option.getD_some] at hm)) | (refine wl_box (by rfl) rfl (by first | exact idV_cells _ | exact labV_cells _ _ | exact rectV_cells _ _ _ _ | rfl) hm ?_; clear hm; intro b1 w1 hm) | (go_at_call 49; refine (h1 _ (hm.heap (by with_reducible first | exact at0 | exact at1 | exact at2 | exact at3))).mono ?_; rintro e w1 ⟨rfl, hx⟩; replace hm := hm.callAt (by with_reducible first | exact at0 | exact at1 | exact at2 | exact at3) hx; clear hx; simp only [k2, k3] at hm) | (with_reducible first | refine stBs ?_ | refine stMs ?_ | refine stAp ?_ | refine stCo ?_)); (try simp only [k4, k5, k6, Act.put, k1, k2, k3]))
  go_ret2
  exact ⟨rfl, hm.ext⟩
theorem readU_ok (b : Nat) (s r : ByteArray) (v : Int) (h1 : Takes 49 #[.pointer (some ⟨b, 0, none⟩)] b s (.tuple #[.int .u64 v, .int .i64 0]) r) :
    Takes 48 #[.pointer (some ⟨b, 0, none⟩), .func (.func 49) #[.pointer (some ⟨b, 0, none⟩)] #[]] b s (.tuple #[.int .u64 v, .int .i64 0]) r := by
  intro w hw
  go_enter Try.func48, Try.ntmps48
  have hm := Mem.start hw
  go_wp2_with ((first | refine wpList_skip (by rfl) ?_ | (refine wlL (hm := hm) (hu := by first | exact undID | exact undLabel) (hi := by (try simp only [rowOf_size, idC_size]); first | exact sizeID | exact sizeLabel) (h := ?_); (try simp only [Act.put, k1, k2, k3]); (try simp only [← labV_eq, ← idV_eq])) | refine wlLC (hm := hm) (hu := by first | exact undStr | exact undByteI | exact undInt | exact undU64) (h := ?_) | (refine wlS (hm := hm) (hv := (by first | rfl | exact idV_eq _ | exact labV_eq _ _ | exact rectV_eq _ _ _ _)) (hi := by (try simp only [rowOf_size, idC_size]); first | exact sizeID | exact sizeLabel) (hs := by first | (simp only [rowOf_size, idC_size]; done) | rfl) (h1 := by first | rfl | exact idC_one _ | exact rowOf_one _ _ (fun _ _ => rfl) | (simp only [List.size_toArray, List.length_cons, List.all_toArray', List.all_cons, List.all_nil, Value.oneCell', Bool.and_true, Bool.and_self]; done) | (simp [Value.oneCell']; done)) (h := ?_); clear hm; intro w1 hm; (try simp only [rowOf_set, k1, k2, k3, Value.cells, Act.eval, k7, k8, k9, kA, Option.getD_some] at hm)) | (refine wlSC (hm := hm) (hi := by first | exact sizeStr | exact sizeByteI | exact sizeInt | exact sizeU64) (ho := by first | decide | (simp only [rowOf_size, idC_size]; omega) | (simp; done)) (h := ?_); clear hm; intro w1 hm; (try simp only [rowOf_set, k1, k2, k3, Value.cells, Act.eval, k7, k8, k9, kA, Option.getD_some] at hm)) | (refine wlA (hz := by first | exact zeroID | exact zeroLabel) (hm := hm) (h := ?_); clear hm; intro b1 w1 hm; (try simp only [rowOf_set, k1, k2, k3, Value.cells, Act.eval, k7, k8, k9, kA, Option.getD_some] at hm)) | (refine wl_box (by rfl) rfl (by first | exact idV_cells _ | exact labV_cells _ _ | exact rectV_cells _ _ _ _ | rfl) hm ?_; clear hm; intro b1 w1 hm) | (go_at_call 49; refine (h1 _ (hm.heap (by with_reducible first | exact at0 | exact at1 | exact at2 | exact at3))).mono ?_; rintro e w1 ⟨rfl, hx⟩; replace hm := hm.callAt (by with_reducible first | exact at0 | exact at1 | exact at2 | exact at3) hx; clear hx; simp only [k2, k3] at hm) | (with_reducible first | refine stBs ?_ | refine stMs ?_ | refine stAp ?_ | refine stCo ?_)); (try simp only [k4, k5, k6, Act.put, k1, k2, k3]))
  go_ret2
  exact ⟨rfl, hm⟩
theorem readU_err (b : Nat) (s r : ByteArray) (v e : Int) (he : e ≠ 0) (h1 : Takes 49 #[.pointer (some ⟨b, 0, none⟩)] b s (.tuple #[.int .u64 v, .int .i64 e]) r) :
    Takes 48 #[.pointer (some ⟨b, 0, none⟩), .func (.func 49) #[.pointer (some ⟨b, 0, none⟩)] #[]] b s (.tuple #[.int .u64 0, .int .i64 e]) s := by
  intro w hw
  have he1 : (e != 0) = true := by simp [bne, he]
  go_enter Try.func48, Try.ntmps48
  have hm := Mem.start hw
  go_wp2_with ((first | refine wpList_skip (by rfl) ?_ | (refine wlL (hm := hm) (hu := by first | exact undID | exact undLabel) (hi := by (try simp only [rowOf_size, idC_size]); first | exact sizeID | exact sizeLabel) (h := ?_); (try simp only [Act.put, k1, k2, k3]); (try simp only [← labV_eq, ← idV_eq])) | refine wlLC (hm := hm) (hu := by first | exact undStr | exact undByteI | exact undInt | exact undU64) (h := ?_) | (refine wlS (hm := hm) (hv := (by first | rfl | exact idV_eq _ | exact labV_eq _ _ | exact rectV_eq _ _ _ _)) (hi := by (try simp only [rowOf_size, idC_size]); first | exact sizeID | exact sizeLabel) (hs := by first | (simp only [rowOf_size, idC_size]; done) | rfl) (h1 := by first | rfl | exact idC_one _ | exact rowOf_one _ _ (fun _ _ => rfl) | (simp only [List.size_toArray, List.length_cons, List.all_toArray', List.all_cons, List.all_nil, Value.oneCell', Bool.and_true, Bool.and_self]; done) | (simp [Value.oneCell']; done)) (h := ?_); clear hm; intro w1 hm; (try simp only [rowOf_set, k1, k2, k3, Value.cells, Act.eval, k7, k8, k9, kA, Option.getD_some] at hm)) | (refine wlSC (hm := hm) (hi := by first | exact sizeStr | exact sizeByteI | exact sizeInt | exact sizeU64) (ho := by first | decide | (simp only [rowOf_size, idC_size]; omega) | (simp; done)) (h := ?_); clear hm; intro w1 hm; (try simp only [rowOf_set, k1, k2, k3, Value.cells, Act.eval, k7, k8, k9, kA, Option.getD_some] at hm)) | (refine wlA (hz := by first | exact zeroID | exact zeroLabel) (hm := hm) (h := ?_); clear hm; intro b1 w1 hm; (try simp only [rowOf_set, k1, k2, k3, Value.cells, Act.eval, k7, k8, k9, kA, Option.getD_some] at hm)) | (refine wl_box (by rfl) rfl (by first | exact idV_cells _ | exact labV_cells _ _ | exact rectV_cells _ _ _ _ | rfl) hm ?_; clear hm; intro b1 w1 hm) | (go_at_call 49; refine (h1 _ (hm.heap (by with_reducible first | exact at0 | exact at1 | exact at2 | exact at3))).mono ?_; rintro e w1 ⟨rfl, hx⟩; replace hm := hm.callAt (by with_reducible first | exact at0 | exact at1 | exact at2 | exact at3) hx; clear hx; simp only [k2, k3] at hm) | (with_reducible first | refine stBs ?_ | refine stMs ?_ | refine stAp ?_ | refine stCo ?_)); (try simp only [k4, k5, k6, Act.put, k1, k2, k3]))
  go_ret2
  exact ⟨rfl, hm⟩
theorem Number_go (b : Nat) (s r : ByteArray) (v e : Int) (h1 : Takes 48 #[.pointer (some ⟨b, 0, none⟩), .func (.func 49) #[.pointer (some ⟨b, 0, none⟩)] #[]] b s (.tuple #[.int .u64 v, .int .i64 e]) r) :
    Takes 24 #[.pointer (some ⟨b, 0, none⟩)] b s (.tuple #[.int .u64 v, .int .i64 e]) r := by
  intro w hw
  go_enter Try.func24, Try.ntmps24
  have hm := Mem.start hw
  go_wp2_with ((first | refine wpList_skip (by rfl) ?_ | (refine wlL (hm := hm) (hu := by first | exact undID | exact undLabel) (hi := by (try simp only [rowOf_size, idC_size]); first | exact sizeID | exact sizeLabel) (h := ?_); (try simp only [Act.put, k1, k2, k3]); (try simp only [← labV_eq, ← idV_eq])) | refine wlLC (hm := hm) (hu := by first | exact undStr | exact undByteI | exact undInt | exact undU64) (h := ?_) | (refine wlS (hm := hm) (hv := (by first | rfl | exact idV_eq _ | exact labV_eq _ _ | exact rectV_eq _ _ _ _)) (hi := by (try simp only [rowOf_size, idC_size]); first | exact sizeID | exact sizeLabel) (hs := by first | (simp only [rowOf_size, idC_size]; done) | rfl) (h1 := by first | rfl | exact idC_one _ | exact rowOf_one _ _ (fun _ _ => rfl) | (simp only [List.size_toArray, List.length_cons, List.all_toArray', List.all_cons, List.all_nil, Value.oneCell', Bool.and_true, Bool.and_self]; done) | (simp [Value.oneCell']; done)) (h := ?_); clear hm; intro w1 hm; (try simp only [rowOf_set, k1, k2, k3, Value.cells, Act.eval, k7, k8, k9, kA, Option.getD_some] at hm)) | (refine wlSC (hm := hm) (hi := by first | exact sizeStr | exact sizeByteI | exact sizeInt | exact sizeU64) (ho := by first | decide | (simp only [rowOf_size, idC_size]; omega) | (simp; done)) (h := ?_); clear hm; intro w1 hm; (try simp only [rowOf_set, k1, k2, k3, Value.cells, Act.eval, k7, k8, k9, kA, Option.getD_some] at hm)) | (refine wlA (hz := by first | exact zeroID | exact zeroLabel) (hm := hm) (h := ?_); clear hm; intro b1 w1 hm; (try simp only [rowOf_set, k1, k2, k3, Value.cells, Act.eval, k7, k8, k9, kA, Option.getD_some] at hm)) | (refine wl_box (by rfl) rfl (by first | exact idV_cells _ | exact labV_cells _ _ | exact rectV_cells _ _ _ _ | rfl) hm ?_; clear hm; intro b1 w1 hm) | (go_at_call 48; refine (h1 _ (hm.heap (by with_reducible first | exact at0 | exact at1 | exact at2 | exact at3))).mono ?_; rintro e w1 ⟨rfl, hx⟩; replace hm := hm.callAt (by with_reducible first | exact at0 | exact at1 | exact at2 | exact at3) hx; clear hx; simp only [k2, k3] at hm) | (with_reducible first | refine stBs ?_ | refine stMs ?_ | refine stAp ?_ | refine stCo ?_)); (try simp only [k4, k5, k6, Act.put, k1, k2, k3]))
  go_ret2
  exact ⟨rfl, hm⟩
/-- What Number reads of the bytes f, m of them: the error, or 0. -/
def numE (m : Nat) (f : Nat → Nat) : Nat := if m = 0 then 4 else if 8 < f 0 then 3 else if m < 1 + f 0 then 4 else if 0 < f 0 ∧ f 1 = 0 then 3 else 0
/-- The bytes behind the first k. -/
def dropF (k : Nat) (f : Nat → Nat) (j : Nat) : Nat := f (k + j)
/-- A string of m bytes f, and how a reader of it takes. -/
theorem takeB_ok (b m n : Nat) (f : Nat → Nat) (h : n ≤ m) : Takes 84 #[.pointer (some ⟨b, 0, none⟩), .int .i64 (n : Int)] b (bytesB m f) (.tuple #[.string (bytesB n f), .int .i64 0]) (bytesB (m - n) (dropF n f)) :=
  take_ok b _ _ _ m n (bytesB_size m f) h (bytesB_take m n f h) (by rw [bytesB_size]; exact bytesB_drop m n f h)
theorem number_any (b m : Nat) (f : Nat → Nat) (hf : ∀ j, f j < 256) : ∃ (v : Nat) (r : ByteArray), Takes 49 #[.pointer (some ⟨b, 0, none⟩)] b (bytesB m f) (.tuple #[.int .u64 (v : Int), .int .i64 ((numE m f : Nat) : Int)]) r ∧
    (numE m f = 0 → v = valB (dropF 1 f) (f 0) ∧ r = bytesB (m - 1 - f 0) (dropF (1 + f 0) f)) := by
  unfold numE
  by_cases h0 : m = 0
  · rw [if_pos h0]
    exact ⟨0, _, number_err1 b _ _ _ (take_more b _ m 1 (bytesB_size m f) (by omega)), fun h => by omega⟩
  · rw [if_neg h0]
    have k1 := takeB_ok b m 1 f (by omega)
    have hI0 : ∀ w, (Instr.index 9 (.string (bytesB 1 f)) (.int .i64 0)).run Try.prog w = .ok (.int .u8 ((f 0 : Nat) : Int)) w := run_indexS (k := 0) (bytesB_get (show 0 < 1 by omega)) (hf 0)
    by_cases h8 : 8 < f 0
    · rw [if_pos h8]
      exact ⟨0, _, number_form1 b _ _ _ (f 0) h8 hI0 k1, fun h => by omega⟩
    · rw [if_neg h8]
      by_cases hm : m < 1 + f 0
      · rw [if_pos hm]
        exact ⟨0, _, number_err2 b _ _ _ _ _ (f 0) h8 hI0 k1 (take_more b _ (m - 1) (f 0) (bytesB_size _ _) (by omega)), fun h => by omega⟩
      · rw [if_neg hm]
        have k2 := takeB_ok b (m - 1) (f 0) (dropF 1 f) (by omega)
        have hg := number_go b _ _ _ _ _ (f 0) (dropF 1 f) (fun k => hf _) h8 (bytesB_size _ _) _ rfl hI0 (fun k hk => run_indexS (bytesB_get hk) (hf _)) k1 k2
        have e1 : dropF 1 f 0 = f 1 := rfl
        have e2 : bytesB (m - 1 - f 0) (dropF (f 0) (dropF 1 f)) = bytesB (m - 1 - f 0) (dropF (1 + f 0) f) := bytesB_congr fun j _ => by unfold dropF; rw [Nat.add_assoc]
        by_cases hb : 0 < f 0 ∧ f 1 = 0
        · rw [if_pos hb]
          rw [e1, hb.2, decide_eq_true hb.1, if_pos (by decide)] at hg
          exact ⟨0, _, hg, fun h => by omega⟩
        · rw [if_neg hb]
          rw [if_neg (by rw [e1]; simp; omega), e2] at hg
          exact ⟨_, _, hg, fun _ => ⟨rfl, rfl⟩⟩
/-- A reader's Number. -/
theorem Number_ok (b m : Nat) (f : Nat → Nat) (hf : ∀ j, f j < 256) (h : numE m f = 0) : Takes 24 #[.pointer (some ⟨b, 0, none⟩)] b (bytesB m f) (.tuple #[.int .u64 ((valB (dropF 1 f) (f 0) : Nat) : Int), .int .i64 0]) (bytesB (m - 1 - f 0) (dropF (1 + f 0) f)) := by
  obtain ⟨v, r, h1, h2⟩ := number_any b m f hf
  obtain ⟨rfl, rfl⟩ := h2 h
  rw [h] at h1
  exact Number_go b _ _ _ _ (readU_ok b _ _ _ h1)
theorem Number_err (b m : Nat) (f : Nat → Nat) (hf : ∀ j, f j < 256) (h : numE m f ≠ 0) : Takes 24 #[.pointer (some ⟨b, 0, none⟩)] b (bytesB m f) (.tuple #[.int .u64 0, .int .i64 ((numE m f : Nat) : Int)]) (bytesB m f) := by
  obtain ⟨v, r, h1, _⟩ := number_any b m f hf
  exact Number_go b _ _ _ _ (readU_err b _ _ _ _ (by omega) h1)
end Go.Proofs.Ytijkmbebfodhdaa

/- (Mem8)
  The symbolic heap, continued: a string copied over a whole row of bytes.
-/
namespace Go.Proofs.Ytijkmbebfodhdaa
open Go.RowKit
set_option linter.unusedSimpArgs false
set_option linter.unusedVariables false
section
variable {P : Program} {ops : Array Oper} {Q : Exit → Act → World → Prop} {rest : List Oper} {a : Act} {w0 w : World} {own : List Nat} {L : List (Nat × Obj)}
  {dst : Option Tmp} {ty : TypeId} {pos : String} {aft : Array Edge} {gd : Option (Nat × Bool)} {K : Act → World → Prop}
theorem ow_copy_full {T U E V : TypeId} {x y : Operand} {g i n cap : Nat} {cur : Array Value} {f : Nat → Nat} (hm : Mem w0 own L w) (hu : P.underlying T = some (.slice E)) (hs : (P.info? E).map (·.size) = some 1) (hL : L[i]? = some (g, .cells cur V (0, 0)))
    (hx : a.eval x = .slice (some ⟨g, 0, none⟩) n cap) (hy : a.eval y = .string (bytesB n f)) (hf : ∀ j, j < n → f j < 256) (hn : cur.size = n)
    (h : ∀ w', Mem w0 own (L.set i (g, .cells (rowOf n fun j => .int .u8 ((f j : Nat) : Int)) V (0, 0))) w' → K (a.put dst (.int .i64 (n : Int))) w') : Oper.wp P ⟨dst, .call ⟨.builtin .copy, #[x, y], #[T, U]⟩, ty, pos, aft, gd⟩ a w K Q := by
  have hsz := bytesB_size n f
  have hr := Lib.run_copy_row_string (P := P) w T U ty E g 0 n cap (bytesB n f) cur V hu hs (hm.heap hL) (by omega) (by omega)
  have hrow : (cur.toList.take 0 ++ Lib.byteCells (bytesB n f).data.toList ++ cur.toList.drop (0 + (bytesB n f).size)).toArray = rowOf n fun j => .int .u8 ((f j : Nat) : Int) := by
    apply Array.ext_getElem?
    intro j
    have hl : (Lib.byteCells (bytesB n f).data.toList).length = n := by rw [Lib.byteCells_length, bytesB_toList]; simp
    have hd : cur.toList.drop (0 + (bytesB n f).size) = [] := by rw [List.drop_eq_nil_iff, Array.length_toList]; omega
    rw [hd, List.append_nil, List.take_zero, List.nil_append, List.getElem?_toArray]
    by_cases hj : j < n
    · rw [rowOf_get _ _ _ hj]
      simp only [Lib.byteCells, List.getElem?_map, bytesB_get hj, Option.map_some, UInt8.toNat_ofNat', Option.some.injEq, Value.int.injEq, true_and]
      have := hf j hj
      omega
    · rw [List.getElem?_eq_none (by omega), Array.getElem?_eq_none (by rw [rowOf_size]; omega)]
  rw [hrow, hsz] at hr
  unfold Oper.wp execOp
  simp only [resolve, invoke, builtin, Sem.run_bind, Sem.run_pure, Result.andThen_ok, List.map_toArray, List.map_cons, List.map_nil, hx, hy, hr]
  exact h _ (hm.setRow hL _)
end
end Go.Proofs.Ytijkmbebfodhdaa

/- (WirG)
  Wire: a text, a place that is read.
-/
namespace Go.Proofs.Ytijkmbebfodhdaa
open Go.RowKit
set_option linter.unusedSimpArgs false
set_option linter.unusedVariables false
set_option maxHeartbeats 1000000
set_option maxRecDepth 20000
attribute [local irreducible] wpQuiet wpList wpAnyH Calls

theorem text_err (b : Nat) (s r : ByteArray) (v e : Int) (he : e ≠ 0) (h1 : Takes 49 #[.pointer (some ⟨b, 0, none⟩)] b s (.tuple #[.int .u64 v, .int .i64 e]) r) :
    Takes 51 #[.pointer (some ⟨b, 0, none⟩)] b s (.tuple #[.string { data := #[] }, .int .i64 e]) r := by
  intro w hw
  have he1 : (e != 0) = true := by simp [bne, he]
  have h2 := h1
  go_enter Try.func51, Try.ntmps51
  have hm := Mem.start hw
  go_wp2_with ((first | refine wpList_skip (by rfl) ?_ | (refine wlL (hm := hm) (hu := by first | exact undID | exact undLabel) (hi := by (try simp only [rowOf_size, idC_size]); first | exact sizeID | exact sizeLabel) (h := ?_); (try simp only [Act.put, k1, k2, k3]); (try simp only [← labV_eq, ← idV_eq])) | refine wlLC (hm := hm) (hu := by first | exact undStr | exact undByteI | exact undInt | exact undU64) (h := ?_) | (refine wlS (hm := hm) (hv := (by first | rfl | exact idV_eq _ | exact labV_eq _ _ | exact rectV_eq _ _ _ _)) (hi := by (try simp only [rowOf_size, idC_size]); first | exact sizeID | exact sizeLabel) (hs := by first | (simp only [rowOf_size, idC_size]; done) | rfl) (h1 := by first | rfl | exact idC_one _ | exact rowOf_one _ _ (fun _ _ => rfl) | (simp only [List.size_toArray, List.length_cons, List.all_toArray', List.all_cons, List.all_nil, Value.oneCell', Bool.and_true, Bool.and_self]; done) | (simp [Value.oneCell']; done)) (h := ?_); clear hm; intro w1 hm; (try simp only [rowOf_set, k1, k2, k3, Value.cells, Act.eval, k7, k8, k9, kA, Option.getD_some] at hm)) | (refine wlSC (hm := hm) (hi := by first | exact sizeStr | exact sizeByteI | exact sizeInt | exact sizeU64) (ho := by first | decide | (simp only [rowOf_size, idC_size]; omega) | (simp; done)) (h := ?_); clear hm; intro w1 hm; (try simp only [rowOf_set, k1, k2, k3, Value.cells, Act.eval, k7, k8, k9, kA, Option.getD_some] at hm)) | (refine wlA (hz := by first | exact zeroID | exact zeroLabel) (hm := hm) (h := ?_); clear hm; intro b1 w1 hm; (try simp only [rowOf_set, k1, k2, k3, Value.cells, Act.eval, k7, k8, k9, kA, Option.getD_some] at hm)) | (refine wl_box (by rfl) rfl (by first | exact idV_cells _ | exact labV_cells _ _ | exact rectV_cells _ _ _ _ | rfl) hm ?_; clear hm; intro b1 w1 hm) | (go_at_call 49; refine (h1 _ (hm.heap (by with_reducible first | exact at0 | exact at1 | exact at2 | exact at3 | exact at4))).mono ?_; rintro e w1 ⟨rfl, hx⟩; replace hm := hm.callAt (by with_reducible first | exact at0 | exact at1 | exact at2 | exact at3 | exact at4) hx; clear hx; simp only [k2, k3] at hm) | (go_at_call 84; refine (h2 _ (hm.heap (by with_reducible first | exact at0 | exact at1 | exact at2 | exact at3 | exact at4))).mono ?_; rintro e w1 ⟨rfl, hx⟩; replace hm := hm.callAt (by with_reducible first | exact at0 | exact at1 | exact at2 | exact at3 | exact at4) hx; clear hx; simp only [k2, k3] at hm) | (with_reducible first | refine stBs ?_ | refine stMs ?_ | refine stAp ?_ | refine stCo ?_)); (try simp only [k4, k5, k6, Act.put, k1, k2, k3]))
  go_ret2
  exact ⟨rfl, hm⟩
theorem text_form (b : Nat) (s r : ByteArray) (v : Nat) (hv : 4096 < v) (h1 : Takes 49 #[.pointer (some ⟨b, 0, none⟩)] b s (.tuple #[.int .u64 (v : Int), .int .i64 0]) r) :
    Takes 51 #[.pointer (some ⟨b, 0, none⟩)] b s (.tuple #[.string { data := #[] }, .int .i64 3]) r := by
  intro w hw
  have h2 := h1
  go_enter Try.func51, Try.ntmps51
  have hm := Mem.start hw
  go_wp2_with ((first | refine wpList_skip (by rfl) ?_ | (refine wlL (hm := hm) (hu := by first | exact undID | exact undLabel) (hi := by (try simp only [rowOf_size, idC_size]); first | exact sizeID | exact sizeLabel) (h := ?_); (try simp only [Act.put, k1, k2, k3]); (try simp only [← labV_eq, ← idV_eq])) | refine wlLC (hm := hm) (hu := by first | exact undStr | exact undByteI | exact undInt | exact undU64) (h := ?_) | (refine wlS (hm := hm) (hv := (by first | rfl | exact idV_eq _ | exact labV_eq _ _ | exact rectV_eq _ _ _ _)) (hi := by (try simp only [rowOf_size, idC_size]); first | exact sizeID | exact sizeLabel) (hs := by first | (simp only [rowOf_size, idC_size]; done) | rfl) (h1 := by first | rfl | exact idC_one _ | exact rowOf_one _ _ (fun _ _ => rfl) | (simp only [List.size_toArray, List.length_cons, List.all_toArray', List.all_cons, List.all_nil, Value.oneCell', Bool.and_true, Bool.and_self]; done) | (simp [Value.oneCell']; done)) (h := ?_); clear hm; intro w1 hm; (try simp only [rowOf_set, k1, k2, k3, Value.cells, Act.eval, k7, k8, k9, kA, Option.getD_some] at hm)) | (refine wlSC (hm := hm) (hi := by first | exact sizeStr | exact sizeByteI | exact sizeInt | exact sizeU64) (ho := by first | decide | (simp only [rowOf_size, idC_size]; omega) | (simp; done)) (h := ?_); clear hm; intro w1 hm; (try simp only [rowOf_set, k1, k2, k3, Value.cells, Act.eval, k7, k8, k9, kA, Option.getD_some] at hm)) | (refine wlA (hz := by first | exact zeroID | exact zeroLabel) (hm := hm) (h := ?_); clear hm; intro b1 w1 hm; (try simp only [rowOf_set, k1, k2, k3, Value.cells, Act.eval, k7, k8, k9, kA, Option.getD_some] at hm)) | (refine wl_box (by rfl) rfl (by first | exact idV_cells _ | exact labV_cells _ _ | exact rectV_cells _ _ _ _ | rfl) hm ?_; clear hm; intro b1 w1 hm) | (go_at_call 49; refine (h1 _ (hm.heap (by with_reducible first | exact at0 | exact at1 | exact at2 | exact at3 | exact at4))).mono ?_; rintro e w1 ⟨rfl, hx⟩; replace hm := hm.callAt (by with_reducible first | exact at0 | exact at1 | exact at2 | exact at3 | exact at4) hx; clear hx; simp only [k2, k3] at hm) | (go_at_call 84; refine (h2 _ (hm.heap (by with_reducible first | exact at0 | exact at1 | exact at2 | exact at3 | exact at4))).mono ?_; rintro e w1 ⟨rfl, hx⟩; replace hm := hm.callAt (by with_reducible first | exact at0 | exact at1 | exact at2 | exact at3 | exact at4) hx; clear hx; simp only [k2, k3] at hm) | (with_reducible first | refine stBs ?_ | refine stMs ?_ | refine stAp ?_ | refine stCo ?_)); (try simp only [k4, k5, k6, Act.put, k1, k2, k3]))
  go_ret2
  exact ⟨rfl, hm⟩
theorem text_go (b : Nat) (s r r' t : ByteArray) (v : Nat) (e : Int) (hv : ¬ 4096 < v) (h1 : Takes 49 #[.pointer (some ⟨b, 0, none⟩)] b s (.tuple #[.int .u64 (v : Int), .int .i64 0]) r)
    (h2 : Takes 84 #[.pointer (some ⟨b, 0, none⟩), .int .i64 (v : Int)] b r (.tuple #[.string t, .int .i64 e]) r') :
    Takes 51 #[.pointer (some ⟨b, 0, none⟩)] b s (.tuple #[.string t, .int .i64 e]) r' := by
  intro w hw
  have f1 : IntKind.i64.wrap (v : Int) = (v : Int) := wrap_i64 (by omega) (by omega)
  go_enter Try.func51, Try.ntmps51
  have hm := Mem.start hw
  go_wp2_with ((first | refine wpList_skip (by rfl) ?_ | (refine wlL (hm := hm) (hu := by first | exact undID | exact undLabel) (hi := by (try simp only [rowOf_size, idC_size]); first | exact sizeID | exact sizeLabel) (h := ?_); (try simp only [Act.put, k1, k2, k3]); (try simp only [← labV_eq, ← idV_eq])) | refine wlLC (hm := hm) (hu := by first | exact undStr | exact undByteI | exact undInt | exact undU64) (h := ?_) | (refine wlS (hm := hm) (hv := (by first | rfl | exact idV_eq _ | exact labV_eq _ _ | exact rectV_eq _ _ _ _)) (hi := by (try simp only [rowOf_size, idC_size]); first | exact sizeID | exact sizeLabel) (hs := by first | (simp only [rowOf_size, idC_size]; done) | rfl) (h1 := by first | rfl | exact idC_one _ | exact rowOf_one _ _ (fun _ _ => rfl) | (simp only [List.size_toArray, List.length_cons, List.all_toArray', List.all_cons, List.all_nil, Value.oneCell', Bool.and_true, Bool.and_self]; done) | (simp [Value.oneCell']; done)) (h := ?_); clear hm; intro w1 hm; (try simp only [rowOf_set, k1, k2, k3, Value.cells, Act.eval, k7, k8, k9, kA, Option.getD_some] at hm)) | (refine wlSC (hm := hm) (hi := by first | exact sizeStr | exact sizeByteI | exact sizeInt | exact sizeU64) (ho := by first | decide | (simp only [rowOf_size, idC_size]; omega) | (simp; done)) (h := ?_); clear hm; intro w1 hm; (try simp only [rowOf_set, k1, k2, k3, Value.cells, Act.eval, k7, k8, k9, kA, Option.getD_some] at hm)) | (refine wlA (hz := by first | exact zeroID | exact zeroLabel) (hm := hm) (h := ?_); clear hm; intro b1 w1 hm; (try simp only [rowOf_set, k1, k2, k3, Value.cells, Act.eval, k7, k8, k9, kA, Option.getD_some] at hm)) | (refine wl_box (by rfl) rfl (by first | exact idV_cells _ | exact labV_cells _ _ | exact rectV_cells _ _ _ _ | rfl) hm ?_; clear hm; intro b1 w1 hm) | (go_at_call 49; refine (h1 _ (hm.heap (by with_reducible first | exact at0 | exact at1 | exact at2 | exact at3 | exact at4))).mono ?_; rintro e w1 ⟨rfl, hx⟩; replace hm := hm.callAt (by with_reducible first | exact at0 | exact at1 | exact at2 | exact at3 | exact at4) hx; clear hx; simp only [k2, k3] at hm) | (go_at_call 84; refine (h2 _ (hm.heap (by with_reducible first | exact at0 | exact at1 | exact at2 | exact at3 | exact at4))).mono ?_; rintro e w1 ⟨rfl, hx⟩; replace hm := hm.callAt (by with_reducible first | exact at0 | exact at1 | exact at2 | exact at3 | exact at4) hx; clear hx; simp only [k2, k3] at hm) | (with_reducible first | refine stBs ?_ | refine stMs ?_ | refine stAp ?_ | refine stCo ?_)); (try simp only [k4, k5, k6, Act.put, k1, k2, k3]))
  go_ret2
  exact ⟨rfl, hm⟩
theorem readS_nil (g : Value) : Says 50 #[.pointer none, g] (.tuple #[.string { data := #[] }, .int .i64 6]) := by
  intro w
  go_enter Try.func50, Try.ntmps50
  have hm := Mem.refl w []
  go_wp2
  go_ret2
  exact ⟨rfl, hm.ext⟩
theorem readS_ok (b : Nat) (s r t : ByteArray) (h1 : Takes 51 #[.pointer (some ⟨b, 0, none⟩)] b s (.tuple #[.string t, .int .i64 0]) r) :
    Takes 50 #[.pointer (some ⟨b, 0, none⟩), .func (.func 51) #[.pointer (some ⟨b, 0, none⟩)] #[]] b s (.tuple #[.string t, .int .i64 0]) r := by
  intro w hw
  go_enter Try.func50, Try.ntmps50
  have hm := Mem.start hw
  go_wp2_with ((first | refine wpList_skip (by rfl) ?_ | (refine wlL (hm := hm) (hu := by first | exact undID | exact undLabel) (hi := by (try simp only [rowOf_size, idC_size]); first | exact sizeID | exact sizeLabel) (h := ?_); (try simp only [Act.put, k1, k2, k3]); (try simp only [← labV_eq, ← idV_eq])) | refine wlLC (hm := hm) (hu := by first | exact undStr | exact undByteI | exact undInt | exact undU64) (h := ?_) | (refine wlS (hm := hm) (hv := (by first | rfl | exact idV_eq _ | exact labV_eq _ _ | exact rectV_eq _ _ _ _)) (hi := by (try simp only [rowOf_size, idC_size]); first | exact sizeID | exact sizeLabel) (hs := by first | (simp only [rowOf_size, idC_size]; done) | rfl) (h1 := by first | rfl | exact idC_one _ | exact rowOf_one _ _ (fun _ _ => rfl) | (simp only [List.size_toArray, List.length_cons, List.all_toArray', List.all_cons, List.all_nil, Value.oneCell', Bool.and_true, Bool.and_self]; done) | (simp [Value.oneCell']; done)) (h := ?_); clear hm; intro w1 hm; (try simp only [rowOf_set, k1, k2, k3, Value.cells, Act.eval, k7, k8, k9, kA, Option.getD_some] at hm)) | (refine wlSC (hm := hm) (hi := by first | exact sizeStr | exact sizeByteI | exact sizeInt | exact sizeU64) (ho := by first | decide | (simp only [rowOf_size, idC_size]; omega) | (simp; done)) (h := ?_); clear hm; intro w1 hm; (try simp only [rowOf_set, k1, k2, k3, Value.cells, Act.eval, k7, k8, k9, kA, Option.getD_some] at hm)) | (refine wlA (hz := by first | exact zeroID | exact zeroLabel) (hm := hm) (h := ?_); clear hm; intro b1 w1 hm; (try simp only [rowOf_set, k1, k2, k3, Value.cells, Act.eval, k7, k8, k9, kA, Option.getD_some] at hm)) | (refine wl_box (by rfl) rfl (by first | exact idV_cells _ | exact labV_cells _ _ | exact rectV_cells _ _ _ _ | rfl) hm ?_; clear hm; intro b1 w1 hm) | (go_at_call 51; refine (h1 _ (hm.heap (by with_reducible first | exact at0 | exact at1 | exact at2 | exact at3 | exact at4))).mono ?_; rintro e w1 ⟨rfl, hx⟩; replace hm := hm.callAt (by with_reducible first | exact at0 | exact at1 | exact at2 | exact at3 | exact at4) hx; clear hx; simp only [k2, k3] at hm) | (go_at_call 56; refine (h1 _ (hm.heap (by with_reducible first | exact at0 | exact at1 | exact at2 | exact at3 | exact at4))).mono ?_; rintro e w1 ⟨rfl, hx⟩; replace hm := hm.callAt (by with_reducible first | exact at0 | exact at1 | exact at2 | exact at3 | exact at4) hx; clear hx; simp only [k2, k3] at hm) | (with_reducible first | refine stBs ?_ | refine stMs ?_ | refine stAp ?_ | refine stCo ?_)); (try simp only [k4, k5, k6, Act.put, k1, k2, k3]))
  go_ret2
  exact ⟨rfl, hm⟩
theorem readS_err (b : Nat) (s r t : ByteArray) (e : Int) (he : e ≠ 0) (h1 : Takes 51 #[.pointer (some ⟨b, 0, none⟩)] b s (.tuple #[.string t, .int .i64 e]) r) :
    Takes 50 #[.pointer (some ⟨b, 0, none⟩), .func (.func 51) #[.pointer (some ⟨b, 0, none⟩)] #[]] b s (.tuple #[.string { data := #[] }, .int .i64 e]) s := by
  intro w hw
  have he1 : (e != 0) = true := by simp [bne, he]
  go_enter Try.func50, Try.ntmps50
  have hm := Mem.start hw
  go_wp2_with ((first | refine wpList_skip (by rfl) ?_ | (refine wlL (hm := hm) (hu := by first | exact undID | exact undLabel) (hi := by (try simp only [rowOf_size, idC_size]); first | exact sizeID | exact sizeLabel) (h := ?_); (try simp only [Act.put, k1, k2, k3]); (try simp only [← labV_eq, ← idV_eq])) | refine wlLC (hm := hm) (hu := by first | exact undStr | exact undByteI | exact undInt | exact undU64) (h := ?_) | (refine wlS (hm := hm) (hv := (by first | rfl | exact idV_eq _ | exact labV_eq _ _ | exact rectV_eq _ _ _ _)) (hi := by (try simp only [rowOf_size, idC_size]); first | exact sizeID | exact sizeLabel) (hs := by first | (simp only [rowOf_size, idC_size]; done) | rfl) (h1 := by first | rfl | exact idC_one _ | exact rowOf_one _ _ (fun _ _ => rfl) | (simp only [List.size_toArray, List.length_cons, List.all_toArray', List.all_cons, List.all_nil, Value.oneCell', Bool.and_true, Bool.and_self]; done) | (simp [Value.oneCell']; done)) (h := ?_); clear hm; intro w1 hm; (try simp only [rowOf_set, k1, k2, k3, Value.cells, Act.eval, k7, k8, k9, kA, Option.getD_some] at hm)) | (refine wlSC (hm := hm) (hi := by first | exact sizeStr | exact sizeByteI | exact sizeInt | exact sizeU64) (ho := by first | decide | (simp only [rowOf_size, idC_size]; omega) | (simp; done)) (h := ?_); clear hm; intro w1 hm; (try simp only [rowOf_set, k1, k2, k3, Value.cells, Act.eval, k7, k8, k9, kA, Option.getD_some] at hm)) | (refine wlA (hz := by first | exact zeroID | exact zeroLabel) (hm := hm) (h := ?_); clear hm; intro b1 w1 hm; (try simp only [rowOf_set, k1, k2, k3, Value.cells, Act.eval, k7, k8, k9, kA, Option.getD_some] at hm)) | (refine wl_box (by rfl) rfl (by first | exact idV_cells _ | exact labV_cells _ _ | exact rectV_cells _ _ _ _ | rfl) hm ?_; clear hm; intro b1 w1 hm) | (go_at_call 51; refine (h1 _ (hm.heap (by with_reducible first | exact at0 | exact at1 | exact at2 | exact at3 | exact at4))).mono ?_; rintro e w1 ⟨rfl, hx⟩; replace hm := hm.callAt (by with_reducible first | exact at0 | exact at1 | exact at2 | exact at3 | exact at4) hx; clear hx; simp only [k2, k3] at hm) | (go_at_call 56; refine (h1 _ (hm.heap (by with_reducible first | exact at0 | exact at1 | exact at2 | exact at3 | exact at4))).mono ?_; rintro e w1 ⟨rfl, hx⟩; replace hm := hm.callAt (by with_reducible first | exact at0 | exact at1 | exact at2 | exact at3 | exact at4) hx; clear hx; simp only [k2, k3] at hm) | (with_reducible first | refine stBs ?_ | refine stMs ?_ | refine stAp ?_ | refine stCo ?_)); (try simp only [k4, k5, k6, Act.put, k1, k2, k3]))
  go_ret2
  exact ⟨rfl, hm⟩
theorem Text_go (b : Nat) (s r t : ByteArray) (e : Int) (h1 : Takes 50 #[.pointer (some ⟨b, 0, none⟩), .func (.func 51) #[.pointer (some ⟨b, 0, none⟩)] #[]] b s (.tuple #[.string t, .int .i64 e]) r) :
    Takes 25 #[.pointer (some ⟨b, 0, none⟩)] b s (.tuple #[.string t, .int .i64 e]) r := by
  intro w hw
  go_enter Try.func25, Try.ntmps25
  have hm := Mem.start hw
  go_wp2_with ((first | refine wpList_skip (by rfl) ?_ | (refine wlL (hm := hm) (hu := by first | exact undID | exact undLabel) (hi := by (try simp only [rowOf_size, idC_size]); first | exact sizeID | exact sizeLabel) (h := ?_); (try simp only [Act.put, k1, k2, k3]); (try simp only [← labV_eq, ← idV_eq])) | refine wlLC (hm := hm) (hu := by first | exact undStr | exact undByteI | exact undInt | exact undU64) (h := ?_) | (refine wlS (hm := hm) (hv := (by first | rfl | exact idV_eq _ | exact labV_eq _ _ | exact rectV_eq _ _ _ _)) (hi := by (try simp only [rowOf_size, idC_size]); first | exact sizeID | exact sizeLabel) (hs := by first | (simp only [rowOf_size, idC_size]; done) | rfl) (h1 := by first | rfl | exact idC_one _ | exact rowOf_one _ _ (fun _ _ => rfl) | (simp only [List.size_toArray, List.length_cons, List.all_toArray', List.all_cons, List.all_nil, Value.oneCell', Bool.and_true, Bool.and_self]; done) | (simp [Value.oneCell']; done)) (h := ?_); clear hm; intro w1 hm; (try simp only [rowOf_set, k1, k2, k3, Value.cells, Act.eval, k7, k8, k9, kA, Option.getD_some] at hm)) | (refine wlSC (hm := hm) (hi := by first | exact sizeStr | exact sizeByteI | exact sizeInt | exact sizeU64) (ho := by first | decide | (simp only [rowOf_size, idC_size]; omega) | (simp; done)) (h := ?_); clear hm; intro w1 hm; (try simp only [rowOf_set, k1, k2, k3, Value.cells, Act.eval, k7, k8, k9, kA, Option.getD_some] at hm)) | (refine wlA (hz := by first | exact zeroID | exact zeroLabel) (hm := hm) (h := ?_); clear hm; intro b1 w1 hm; (try simp only [rowOf_set, k1, k2, k3, Value.cells, Act.eval, k7, k8, k9, kA, Option.getD_some] at hm)) | (refine wl_box (by rfl) rfl (by first | exact idV_cells _ | exact labV_cells _ _ | exact rectV_cells _ _ _ _ | rfl) hm ?_; clear hm; intro b1 w1 hm) | (go_at_call 50; refine (h1 _ (hm.heap (by with_reducible first | exact at0 | exact at1 | exact at2 | exact at3 | exact at4))).mono ?_; rintro e w1 ⟨rfl, hx⟩; replace hm := hm.callAt (by with_reducible first | exact at0 | exact at1 | exact at2 | exact at3 | exact at4) hx; clear hx; simp only [k2, k3] at hm) | (go_at_call 55; refine (h1 _ (hm.heap (by with_reducible first | exact at0 | exact at1 | exact at2 | exact at3 | exact at4))).mono ?_; rintro e w1 ⟨rfl, hx⟩; replace hm := hm.callAt (by with_reducible first | exact at0 | exact at1 | exact at2 | exact at3 | exact at4) hx; clear hx; simp only [k2, k3] at hm) | (with_reducible first | refine stBs ?_ | refine stMs ?_ | refine stAp ?_ | refine stCo ?_)); (try simp only [k4, k5, k6, Act.put, k1, k2, k3]))
  go_ret2
  exact ⟨rfl, hm⟩
/-- What Text reads: its error, or 0; its size. -/
def txtN (f : Nat → Nat) : Nat := valB (dropF 1 f) (f 0)
def txtE (m : Nat) (f : Nat → Nat) : Nat := if numE m f ≠ 0 then numE m f else if 4096 < txtN f then 3 else if m - 1 - f 0 < txtN f then 4 else 0
theorem text_any (b m : Nat) (f : Nat → Nat) (hf : ∀ j, f j < 256) : ∃ (t r : ByteArray), Takes 51 #[.pointer (some ⟨b, 0, none⟩)] b (bytesB m f) (.tuple #[.string t, .int .i64 ((txtE m f : Nat) : Int)]) r ∧
    (txtE m f = 0 → t = bytesB (txtN f) (dropF (1 + f 0) f) ∧ r = bytesB (m - 1 - f 0 - txtN f) (dropF (1 + f 0 + txtN f) f)) := by
  obtain ⟨v, r, h1, h2⟩ := number_any b m f hf
  unfold txtE
  by_cases h0 : numE m f ≠ 0
  · rw [if_pos h0]
    exact ⟨_, _, text_err b _ _ _ _ (by omega) h1, fun h => (h0 h).elim⟩
  · rw [if_neg h0]
    have h0 : numE m f = 0 := by omega
    obtain ⟨rfl, rfl⟩ := h2 h0
    rw [h0] at h1
    change Takes _ _ b _ (.tuple #[.int .u64 ((txtN f : Nat) : Int), _]) _ at h1
    by_cases h4 : 4096 < txtN f
    · rw [if_pos h4]
      exact ⟨_, _, text_form b _ _ _ h4 h1, fun h => by omega⟩
    · rw [if_neg h4]
      by_cases hl : m - 1 - f 0 < txtN f
      · rw [if_pos hl]
        exact ⟨_, _, text_go b _ _ _ _ _ _ h4 h1 (take_more b _ _ _ (bytesB_size _ _) hl), fun h => by omega⟩
      · rw [if_neg hl]
        refine ⟨_, _, text_go b _ _ _ _ _ _ h4 h1 (takeB_ok b _ _ _ (by omega)), fun _ => ⟨rfl, bytesB_congr fun j _ => by unfold dropF; rw [Nat.add_assoc (1 + f 0)]⟩⟩
theorem Text_ok (b m : Nat) (f : Nat → Nat) (hf : ∀ j, f j < 256) (h : txtE m f = 0) : Takes 25 #[.pointer (some ⟨b, 0, none⟩)] b (bytesB m f) (.tuple #[.string (bytesB (txtN f) (dropF (1 + f 0) f)), .int .i64 0]) (bytesB (m - 1 - f 0 - txtN f) (dropF (1 + f 0 + txtN f) f)) := by
  obtain ⟨t, r, h1, h2⟩ := text_any b m f hf
  obtain ⟨rfl, rfl⟩ := h2 h
  rw [h] at h1
  exact Text_go b _ _ _ _ (readS_ok b _ _ _ h1)
theorem Text_err (b m : Nat) (f : Nat → Nat) (hf : ∀ j, f j < 256) (h : txtE m f ≠ 0) : Takes 25 #[.pointer (some ⟨b, 0, none⟩)] b (bytesB m f) (.tuple #[.string { data := #[] }, .int .i64 ((txtE m f : Nat) : Int)]) (bytesB m f) := by
  obtain ⟨t, r, h1, _⟩ := text_any b m f hf
  exact Text_go b _ _ _ _ (readS_err b _ _ _ _ (by omega) h1)
end Go.Proofs.Ytijkmbebfodhdaa

/- (WirH)
  Wire: a place that is read.
-/
namespace Go.Proofs.Ytijkmbebfodhdaa
open Go.RowKit
set_option linter.unusedSimpArgs false
set_option linter.unusedVariables false
set_option maxHeartbeats 1000000
set_option maxRecDepth 20000
section
variable {P : Program} {ops : Array Oper} {Q : Exit → Act → World → Prop} {rest : List Oper} {a : Act} {w0 w : World} {own : List Nat} {L : List (Nat × Obj)}
  {dst : Option Tmp} {ty : TypeId} {pos : String} {aft : Array Edge} {gd : Option (Nat × Bool)} {K : Act → World → Prop}
theorem ow_copy_none {T U E V : TypeId} {x y : Operand} {g i n cap : Nat} {cur : Array Value} (hm : Mem w0 own L w) (hu : P.underlying T = some (.slice E)) (hs : (P.info? E).map (·.size) = some 1) (hL : L[i]? = some (g, .cells cur V (0, 0)))
    (hx : a.eval x = .slice (some ⟨g, 0, none⟩) n cap) (hy : a.eval y = .string { data := #[] }) (hn : cur.size = n)
    (h : ∀ w', Mem w0 own (L.set i (g, .cells cur V (0, 0))) w' → K (a.put dst (.int .i64 0)) w') : Oper.wp P ⟨dst, .call ⟨.builtin .copy, #[x, y], #[T, U]⟩, ty, pos, aft, gd⟩ a w K Q := by
  have hr := Lib.run_copy_row_string (P := P) w T U ty E g 0 n cap { data := #[] } cur V hu hs (hm.heap hL) (by show 0 ≤ n; omega) (by show 0 + 0 ≤ cur.size; omega)
  have hrow : (cur.toList.take 0 ++ Lib.byteCells ({ data := #[] } : ByteArray).data.toList ++ cur.toList.drop (0 + ({ data := #[] } : ByteArray).size)).toArray = cur := by
    show (([] ++ [] ++ cur.toList.drop 0).toArray) = cur
    simp
  rw [hrow] at hr
  unfold Oper.wp execOp
  simp only [resolve, invoke, builtin, Sem.run_bind, Sem.run_pure, Result.andThen_ok, List.map_toArray, List.map_cons, List.map_nil, hx, hy, hr]
  exact h _ (hm.setRow hL _)
end
theorem idV_zero : idV 0 = .agg (rowOf 20 fun _ => .int .u8 0) := by
  rw [idV_eq, idC]
  congr 1
  exact rowOf_congr fun i hi => by simp [dig]
theorem built_id : Try.prog.built 24 [] = some (rowOf 20 fun _ => .int .u8 0) := by unfold rowOf; kernel_rfl
attribute [local irreducible] wpQuiet wpList wpAnyH Calls
theorem place_ok (b a : Nat) (s r : ByteArray) (h1 : Takes 84 #[.pointer (some ⟨b, 0, none⟩), .int .i64 20] b s (.tuple #[.string (bytesB 20 (dig a)), .int .i64 0]) r) :
    Takes 56 #[.pointer (some ⟨b, 0, none⟩)] b s (.tuple #[idV a, .int .i64 0]) r := by
  intro w hw
  go_enter Try.func56, Try.ntmps56
  have hm := Mem.start hw
  go_wp2_with (with_reducible first | refine stAl ?_ | refine stBo ?_ | refine stLo ?_ | refine stSo ?_ | refine stBu ?_ | refine stBs ?_ | refine stMs ?_ | refine stAp ?_ | refine stCo ?_); refine Stop.go (wl_alloc (by rfl) zeroID rfl hm ?_); clear hm; intro b2 w2 hm; simp only [Act.put, k1, k2, k3]; (try simp only [rowOf_set, k1, k2, k3, Value.cells, Act.eval, k7, k8, k9, kA, Option.getD_some] at hm)
  go_wp2_with (with_reducible first | refine stAl ?_ | refine stBo ?_ | refine stLo ?_ | refine stSo ?_ | refine stBu ?_ | refine stBs ?_ | refine stMs ?_ | refine stAp ?_ | refine stCo ?_); refine Stop.go (wl_alloc (by rfl) zeroID rfl hm ?_); clear hm; intro b3 w3 hm; simp only [Act.put, k1, k2, k3]; (try simp only [rowOf_set, k1, k2, k3, Value.cells, Act.eval, k7, k8, k9, kA, Option.getD_some] at hm)
  go_wp2_with ((first | refine wpList_skip (by rfl) ?_ | (refine wlL (hm := hm) (hu := by first | exact undID | exact undLabel) (hi := by (try simp only [rowOf_size, idC_size]); first | exact sizeID | exact sizeLabel) (h := ?_); (try simp only [Act.put, k1, k2, k3]); (try simp only [← labV_eq, ← idV_eq])) | refine wlLC (hm := hm) (hu := by first | exact undStr | exact undByteI | exact undInt | exact undU64) (h := ?_) | (refine wlS (hm := hm) (hv := (by first | rfl | exact idV_eq _ | exact labV_eq _ _ | exact rectV_eq _ _ _ _)) (hi := by (try simp only [rowOf_size, idC_size]); first | exact sizeID | exact sizeLabel) (hs := by first | (simp only [rowOf_size, idC_size]; done) | rfl) (h1 := by first | rfl | exact idC_one _ | exact rowOf_one _ _ (fun _ _ => rfl) | (simp only [List.size_toArray, List.length_cons, List.all_toArray', List.all_cons, List.all_nil, Value.oneCell', Bool.and_true, Bool.and_self]; done) | (simp [Value.oneCell']; done)) (h := ?_); clear hm; intro w1 hm; (try simp only [rowOf_set, k1, k2, k3, Value.cells, Act.eval, k7, k8, k9, kA, Option.getD_some] at hm)) | (refine wlSC (hm := hm) (hi := by first | exact sizeStr | exact sizeByteI | exact sizeInt | exact sizeU64) (ho := by first | decide | (simp only [rowOf_size, idC_size]; omega) | (simp; done)) (h := ?_); clear hm; intro w1 hm; (try simp only [rowOf_set, k1, k2, k3, Value.cells, Act.eval, k7, k8, k9, kA, Option.getD_some] at hm)) | (refine wlA (hz := by first | exact zeroID | exact zeroLabel) (hm := hm) (h := ?_); clear hm; intro b1 w1 hm; (try simp only [rowOf_set, k1, k2, k3, Value.cells, Act.eval, k7, k8, k9, kA, Option.getD_some] at hm)) | (refine wl_box (by rfl) rfl (by first | exact idV_cells _ | exact labV_cells _ _ | exact rectV_cells _ _ _ _ | rfl) hm ?_; clear hm; intro b1 w1 hm) | (go_at_call 84; refine (h1 _ (hm.heap (by with_reducible first | exact at0 | exact at1 | exact at2 | exact at3 | exact at4))).mono ?_; rintro e w1 ⟨rfl, hx⟩; replace hm := hm.callAt (by with_reducible first | exact at0 | exact at1 | exact at2 | exact at3 | exact at4) hx; clear hx; simp only [k2, k3] at hm) | (with_reducible first | refine stBs ?_ | refine stMs ?_ | refine stAp ?_ | refine stCo ?_)); (try simp only [k4, k5, k6, Act.put, k1, k2, k3]))
  refine Stop.go (wl_op (by rfl) fun K hK => ow_copy_full (i := 0) (n := 20) (cap := 20) (f := dig a) hm undBytesI sizeByteI rfl rfl rfl (fun j _ => dig_lt a j) (rowOf_size _ _) ?_)
  clear hm; intro w5 hm; refine hK _ _ ?_; clear hK K; simp only [Act.put, k1, k2, k3]
  rw [k2] at hm
  replace hm : Mem w [b] [(b3, .cells (idC a) 24 (0, 0)), (b2, .cells (rowOf 20 fun _ => .int .u8 0) 24 (0, 0)), (b, .cells #[.string r] 76 (0, 0))] w5 := hm
  go_wp2_with ((first | refine wpList_skip (by rfl) ?_ | (refine wlL (hm := hm) (hu := by first | exact undID | exact undLabel) (hi := by (try simp only [rowOf_size, idC_size]); first | exact sizeID | exact sizeLabel) (h := ?_); (try simp only [Act.put, k1, k2, k3]); (try simp only [← labV_eq, ← idV_eq])) | refine wlLC (hm := hm) (hu := by first | exact undStr | exact undByteI | exact undInt | exact undU64) (h := ?_) | (refine wlS (hm := hm) (hv := (by first | rfl | exact idV_eq _ | exact labV_eq _ _ | exact rectV_eq _ _ _ _)) (hi := by (try simp only [rowOf_size, idC_size]); first | exact sizeID | exact sizeLabel) (hs := by first | (simp only [rowOf_size, idC_size]; done) | rfl) (h1 := by first | rfl | exact idC_one _ | exact rowOf_one _ _ (fun _ _ => rfl) | (simp only [List.size_toArray, List.length_cons, List.all_toArray', List.all_cons, List.all_nil, Value.oneCell', Bool.and_true, Bool.and_self]; done) | (simp [Value.oneCell']; done)) (h := ?_); clear hm; intro w1 hm; (try simp only [rowOf_set, k1, k2, k3, Value.cells, Act.eval, k7, k8, k9, kA, Option.getD_some] at hm)) | (refine wlSC (hm := hm) (hi := by first | exact sizeStr | exact sizeByteI | exact sizeInt | exact sizeU64) (ho := by first | decide | (simp only [rowOf_size, idC_size]; omega) | (simp; done)) (h := ?_); clear hm; intro w1 hm; (try simp only [rowOf_set, k1, k2, k3, Value.cells, Act.eval, k7, k8, k9, kA, Option.getD_some] at hm)) | (refine wlA (hz := by first | exact zeroID | exact zeroLabel) (hm := hm) (h := ?_); clear hm; intro b1 w1 hm; (try simp only [rowOf_set, k1, k2, k3, Value.cells, Act.eval, k7, k8, k9, kA, Option.getD_some] at hm)) | (refine wl_box (by rfl) rfl (by first | exact idV_cells _ | exact labV_cells _ _ | exact rectV_cells _ _ _ _ | rfl) hm ?_; clear hm; intro b1 w1 hm) | (go_at_call 84; refine (h1 _ (hm.heap (by with_reducible first | exact at0 | exact at1 | exact at2 | exact at3 | exact at4))).mono ?_; rintro e w1 ⟨rfl, hx⟩; replace hm := hm.callAt (by with_reducible first | exact at0 | exact at1 | exact at2 | exact at3 | exact at4) hx; clear hx; simp only [k2, k3] at hm) | (with_reducible first | refine stBs ?_ | refine stMs ?_ | refine stAp ?_ | refine stCo ?_)); (try simp only [k4, k5, k6, Act.put, k1, k2, k3]))
  refine bodyPost_ret (results_row_tmp (h := rfl) _ _ _ _ _ _ _ rfl (hm.heap (i := 1) rfl) undID rfl (by first | exact sizeID | (simp only [rowOf_size, idC_size]; exact sizeID))) rfl ?_
  exact ⟨by rw [idV_eq a] <;> rfl, hm.tail.tail⟩
theorem place_err (b : Nat) (s r : ByteArray) (e : Int) (h1 : Takes 84 #[.pointer (some ⟨b, 0, none⟩), .int .i64 20] b s (.tuple #[.string { data := #[] }, .int .i64 e]) r) :
    Takes 56 #[.pointer (some ⟨b, 0, none⟩)] b s (.tuple #[idV 0, .int .i64 e]) r := by
  intro w hw
  rw [idV_zero]
  go_enter Try.func56, Try.ntmps56
  have hm := Mem.start hw
  go_wp2_with (with_reducible first | refine stAl ?_ | refine stBo ?_ | refine stLo ?_ | refine stSo ?_ | refine stBu ?_ | refine stBs ?_ | refine stMs ?_ | refine stAp ?_ | refine stCo ?_); refine Stop.go (wl_alloc (by rfl) zeroID rfl hm ?_); clear hm; intro b2 w2 hm; simp only [Act.put, k1, k2, k3]; (try simp only [rowOf_set, k1, k2, k3, Value.cells, Act.eval, k7, k8, k9, kA, Option.getD_some] at hm)
  go_wp2_with (with_reducible first | refine stAl ?_ | refine stBo ?_ | refine stLo ?_ | refine stSo ?_ | refine stBu ?_ | refine stBs ?_ | refine stMs ?_ | refine stAp ?_ | refine stCo ?_); refine Stop.go (wl_alloc (by rfl) zeroID rfl hm ?_); clear hm; intro b3 w3 hm; simp only [Act.put, k1, k2, k3]; (try simp only [rowOf_set, k1, k2, k3, Value.cells, Act.eval, k7, k8, k9, kA, Option.getD_some] at hm)
  go_wp2_with ((first | refine wpList_skip (by rfl) ?_ | (refine wlL (hm := hm) (hu := by first | exact undID | exact undLabel) (hi := by (try simp only [rowOf_size, idC_size]); first | exact sizeID | exact sizeLabel) (h := ?_); (try simp only [Act.put, k1, k2, k3]); (try simp only [← labV_eq, ← idV_eq])) | refine wlLC (hm := hm) (hu := by first | exact undStr | exact undByteI | exact undInt | exact undU64) (h := ?_) | (refine wlS (hm := hm) (hv := (by first | rfl | exact idV_eq _ | exact labV_eq _ _ | exact rectV_eq _ _ _ _)) (hi := by (try simp only [rowOf_size, idC_size]); first | exact sizeID | exact sizeLabel) (hs := by first | (simp only [rowOf_size, idC_size]; done) | rfl) (h1 := by first | rfl | exact idC_one _ | exact rowOf_one _ _ (fun _ _ => rfl) | (simp only [List.size_toArray, List.length_cons, List.all_toArray', List.all_cons, List.all_nil, Value.oneCell', Bool.and_true, Bool.and_self]; done) | (simp [Value.oneCell']; done)) (h := ?_); clear hm; intro w1 hm; (try simp only [rowOf_set, k1, k2, k3, Value.cells, Act.eval, k7, k8, k9, kA, Option.getD_some] at hm)) | (refine wlSC (hm := hm) (hi := by first | exact sizeStr | exact sizeByteI | exact sizeInt | exact sizeU64) (ho := by first | decide | (simp only [rowOf_size, idC_size]; omega) | (simp; done)) (h := ?_); clear hm; intro w1 hm; (try simp only [rowOf_set, k1, k2, k3, Value.cells, Act.eval, k7, k8, k9, kA, Option.getD_some] at hm)) | (refine wlA (hz := by first | exact zeroID | exact zeroLabel) (hm := hm) (h := ?_); clear hm; intro b1 w1 hm; (try simp only [rowOf_set, k1, k2, k3, Value.cells, Act.eval, k7, k8, k9, kA, Option.getD_some] at hm)) | (refine wl_box (by rfl) rfl (by first | exact idV_cells _ | exact labV_cells _ _ | exact rectV_cells _ _ _ _ | rfl) hm ?_; clear hm; intro b1 w1 hm) | (go_at_call 84; refine (h1 _ (hm.heap (by with_reducible first | exact at0 | exact at1 | exact at2 | exact at3 | exact at4))).mono ?_; rintro e w1 ⟨rfl, hx⟩; replace hm := hm.callAt (by with_reducible first | exact at0 | exact at1 | exact at2 | exact at3 | exact at4) hx; clear hx; simp only [k2, k3] at hm) | (with_reducible first | refine stBs ?_ | refine stMs ?_ | refine stAp ?_ | refine stCo ?_)); (try simp only [k4, k5, k6, Act.put, k1, k2, k3]))
  refine Stop.go (wl_op (by rfl) fun K hK => ow_copy_none (i := 0) (n := 20) (cap := 20) hm undBytesI sizeByteI rfl rfl rfl (rowOf_size _ _) ?_)
  clear hm; intro w5 hm; refine hK _ _ ?_; clear hK K; simp only [Act.put, k1, k2, k3]
  rw [k2] at hm
  go_wp2_with ((first | refine wpList_skip (by rfl) ?_ | (refine wlL (hm := hm) (hu := by first | exact undID | exact undLabel) (hi := by (try simp only [rowOf_size, idC_size]); first | exact sizeID | exact sizeLabel) (h := ?_); (try simp only [Act.put, k1, k2, k3]); (try simp only [← labV_eq, ← idV_eq])) | refine wlLC (hm := hm) (hu := by first | exact undStr | exact undByteI | exact undInt | exact undU64) (h := ?_) | (refine wlS (hm := hm) (hv := (by first | rfl | exact idV_eq _ | exact labV_eq _ _ | exact rectV_eq _ _ _ _)) (hi := by (try simp only [rowOf_size, idC_size]); first | exact sizeID | exact sizeLabel) (hs := by first | (simp only [rowOf_size, idC_size]; done) | rfl) (h1 := by first | rfl | exact idC_one _ | exact rowOf_one _ _ (fun _ _ => rfl) | (simp only [List.size_toArray, List.length_cons, List.all_toArray', List.all_cons, List.all_nil, Value.oneCell', Bool.and_true, Bool.and_self]; done) | (simp [Value.oneCell']; done)) (h := ?_); clear hm; intro w1 hm; (try simp only [rowOf_set, k1, k2, k3, Value.cells, Act.eval, k7, k8, k9, kA, Option.getD_some] at hm)) | (refine wlSC (hm := hm) (hi := by first | exact sizeStr | exact sizeByteI | exact sizeInt | exact sizeU64) (ho := by first | decide | (simp only [rowOf_size, idC_size]; omega) | (simp; done)) (h := ?_); clear hm; intro w1 hm; (try simp only [rowOf_set, k1, k2, k3, Value.cells, Act.eval, k7, k8, k9, kA, Option.getD_some] at hm)) | (refine wlA (hz := by first | exact zeroID | exact zeroLabel) (hm := hm) (h := ?_); clear hm; intro b1 w1 hm; (try simp only [rowOf_set, k1, k2, k3, Value.cells, Act.eval, k7, k8, k9, kA, Option.getD_some] at hm)) | (refine wl_box (by rfl) rfl (by first | exact idV_cells _ | exact labV_cells _ _ | exact rectV_cells _ _ _ _ | rfl) hm ?_; clear hm; intro b1 w1 hm) | (go_at_call 84; refine (h1 _ (hm.heap (by with_reducible first | exact at0 | exact at1 | exact at2 | exact at3 | exact at4))).mono ?_; rintro e w1 ⟨rfl, hx⟩; replace hm := hm.callAt (by with_reducible first | exact at0 | exact at1 | exact at2 | exact at3 | exact at4) hx; clear hx; simp only [k2, k3] at hm) | (with_reducible first | refine stBs ?_ | refine stMs ?_ | refine stAp ?_ | refine stCo ?_)); (try simp only [k4, k5, k6, Act.put, k1, k2, k3]))
  refine bodyPost_ret (results_row_tmp (h := rfl) _ _ _ _ _ _ _ rfl (hm.heap (i := 1) rfl) undID rfl (by first | exact sizeID | (simp only [rowOf_size, idC_size]; exact sizeID))) rfl ?_
  exact ⟨rfl, hm.tail.tail⟩
theorem readI_ok (b a : Nat) (s r : ByteArray) (h1 : Takes 56 #[.pointer (some ⟨b, 0, none⟩)] b s (.tuple #[idV a, .int .i64 0]) r) :
    Takes 55 #[.pointer (some ⟨b, 0, none⟩), .func (.func 56) #[.pointer (some ⟨b, 0, none⟩)] #[]] b s (.tuple #[idV a, .int .i64 0]) r := by
  intro w hw
  go_enter Try.func55, Try.ntmps55
  have hm := Mem.start hw
  go_wp2_with ((first | refine wpList_skip (by rfl) ?_ | (refine wlL (hm := hm) (hu := by first | exact undID | exact undLabel) (hi := by (try simp only [rowOf_size, idC_size]); first | exact sizeID | exact sizeLabel) (h := ?_); (try simp only [Act.put, k1, k2, k3]); (try simp only [← labV_eq, ← idV_eq])) | refine wlLC (hm := hm) (hu := by first | exact undStr | exact undByteI | exact undInt | exact undU64) (h := ?_) | (refine wlS (hm := hm) (hv := (by first | rfl | exact idV_eq _ | exact labV_eq _ _ | exact rectV_eq _ _ _ _)) (hi := by (try simp only [rowOf_size, idC_size]); first | exact sizeID | exact sizeLabel) (hs := by first | (simp only [rowOf_size, idC_size]; done) | rfl) (h1 := by first | rfl | exact idC_one _ | exact rowOf_one _ _ (fun _ _ => rfl) | (simp only [List.size_toArray, List.length_cons, List.all_toArray', List.all_cons, List.all_nil, Value.oneCell', Bool.and_true, Bool.and_self]; done) | (simp [Value.oneCell']; done)) (h := ?_); clear hm; intro w1 hm; (try simp only [rowOf_set, k1, k2, k3, Value.cells, Act.eval, k7, k8, k9, kA, Option.getD_some] at hm)) | (refine wlSC (hm := hm) (hi := by first | exact sizeStr | exact sizeByteI | exact sizeInt | exact sizeU64) (ho := by first | decide | (simp only [rowOf_size, idC_size]; omega) | (simp; done)) (h := ?_); clear hm; intro w1 hm; (try simp only [rowOf_set, k1, k2, k3, Value.cells, Act.eval, k7, k8, k9, kA, Option.getD_some] at hm)) | (refine wlA (hz := by first | exact zeroID | exact zeroLabel) (hm := hm) (h := ?_); clear hm; intro b1 w1 hm; (try simp only [rowOf_set, k1, k2, k3, Value.cells, Act.eval, k7, k8, k9, kA, Option.getD_some] at hm)) | (refine wl_box (by rfl) rfl (by first | exact idV_cells _ | exact labV_cells _ _ | exact rectV_cells _ _ _ _ | rfl) hm ?_; clear hm; intro b1 w1 hm) | (go_at_call 56; refine (h1 _ (hm.heap (by with_reducible first | exact at0 | exact at1 | exact at2 | exact at3 | exact at4))).mono ?_; rintro e w1 ⟨rfl, hx⟩; replace hm := hm.callAt (by with_reducible first | exact at0 | exact at1 | exact at2 | exact at3 | exact at4) hx; clear hx; simp only [k2, k3] at hm) | (with_reducible first | refine stBs ?_ | refine stMs ?_ | refine stAp ?_ | refine stCo ?_)); (try simp only [k4, k5, k6, Act.put, k1, k2, k3]))
  refine bodyPost_ret (results_row_tmp (h := rfl) _ _ _ _ _ _ _ rfl (hm.heap (i := 2) rfl) undID rfl (by first | exact sizeID | (simp only [rowOf_size, idC_size]; exact sizeID))) rfl ?_
  exact ⟨by rw [idV_eq a] <;> rfl, hm.tail.tail.tail⟩
theorem readI_err (b a : Nat) (s r : ByteArray) (e : Int) (he : e ≠ 0) (h1 : Takes 56 #[.pointer (some ⟨b, 0, none⟩)] b s (.tuple #[idV a, .int .i64 e]) r) :
    Takes 55 #[.pointer (some ⟨b, 0, none⟩), .func (.func 56) #[.pointer (some ⟨b, 0, none⟩)] #[]] b s (.tuple #[idV 0, .int .i64 e]) s := by
  intro w hw
  have he1 : (e != 0) = true := by simp [bne, he]
  rw [idV_zero]
  go_enter Try.func55, Try.ntmps55
  have hm := Mem.start hw
  go_wp2_with ((first | refine wpList_skip (by rfl) ?_ | (refine wlL (hm := hm) (hu := by first | exact undID | exact undLabel) (hi := by (try simp only [rowOf_size, idC_size]); first | exact sizeID | exact sizeLabel) (h := ?_); (try simp only [Act.put, k1, k2, k3]); (try simp only [← labV_eq, ← idV_eq])) | refine wlLC (hm := hm) (hu := by first | exact undStr | exact undByteI | exact undInt | exact undU64) (h := ?_) | (refine wlS (hm := hm) (hv := (by first | rfl | exact idV_eq _ | exact labV_eq _ _ | exact rectV_eq _ _ _ _)) (hi := by (try simp only [rowOf_size, idC_size]); first | exact sizeID | exact sizeLabel) (hs := by first | (simp only [rowOf_size, idC_size]; done) | rfl) (h1 := by first | rfl | exact idC_one _ | exact rowOf_one _ _ (fun _ _ => rfl) | (simp only [List.size_toArray, List.length_cons, List.all_toArray', List.all_cons, List.all_nil, Value.oneCell', Bool.and_true, Bool.and_self]; done) | (simp [Value.oneCell']; done)) (h := ?_); clear hm; intro w1 hm; (try simp only [rowOf_set, k1, k2, k3, Value.cells, Act.eval, k7, k8, k9, kA, Option.getD_some] at hm)) | (refine wlSC (hm := hm) (hi := by first | exact sizeStr | exact sizeByteI | exact sizeInt | exact sizeU64) (ho := by first | decide | (simp only [rowOf_size, idC_size]; omega) | (simp; done)) (h := ?_); clear hm; intro w1 hm; (try simp only [rowOf_set, k1, k2, k3, Value.cells, Act.eval, k7, k8, k9, kA, Option.getD_some] at hm)) | (refine wlA (hz := by first | exact zeroID | exact zeroLabel) (hm := hm) (h := ?_); clear hm; intro b1 w1 hm; (try simp only [rowOf_set, k1, k2, k3, Value.cells, Act.eval, k7, k8, k9, kA, Option.getD_some] at hm)) | (refine wl_box (by rfl) rfl (by first | exact idV_cells _ | exact labV_cells _ _ | exact rectV_cells _ _ _ _ | rfl) hm ?_; clear hm; intro b1 w1 hm) | (go_at_call 56; refine (h1 _ (hm.heap (by with_reducible first | exact at0 | exact at1 | exact at2 | exact at3 | exact at4))).mono ?_; rintro e w1 ⟨rfl, hx⟩; replace hm := hm.callAt (by with_reducible first | exact at0 | exact at1 | exact at2 | exact at3 | exact at4) hx; clear hx; simp only [k2, k3] at hm) | (with_reducible first | refine stBs ?_ | refine stMs ?_ | refine stAp ?_ | refine stCo ?_)); (try simp only [k4, k5, k6, Act.put, k1, k2, k3]))
  refine bodyPost_ret (results_row_tmp (h := rfl) _ _ _ _ _ _ _ rfl (hm.heap (i := 2) rfl) undID rfl (by first | exact sizeID | (simp only [rowOf_size, idC_size]; exact sizeID))) rfl ?_
  exact ⟨rfl, hm.tail.tail.tail⟩
theorem Place_go (b a : Nat) (s r : ByteArray) (e : Int) (h1 : Takes 55 #[.pointer (some ⟨b, 0, none⟩), .func (.func 56) #[.pointer (some ⟨b, 0, none⟩)] #[]] b s (.tuple #[idV a, .int .i64 e]) r) :
    Takes 30 #[.pointer (some ⟨b, 0, none⟩)] b s (.tuple #[idV a, .int .i64 e]) r := by
  intro w hw
  go_enter Try.func30, Try.ntmps30
  have hm := Mem.start hw
  go_wp2_with ((first | refine wpList_skip (by rfl) ?_ | (refine wlL (hm := hm) (hu := by first | exact undID | exact undLabel) (hi := by (try simp only [rowOf_size, idC_size]); first | exact sizeID | exact sizeLabel) (h := ?_); (try simp only [Act.put, k1, k2, k3]); (try simp only [← labV_eq, ← idV_eq])) | refine wlLC (hm := hm) (hu := by first | exact undStr | exact undByteI | exact undInt | exact undU64) (h := ?_) | (refine wlS (hm := hm) (hv := (by first | rfl | exact idV_eq _ | exact labV_eq _ _ | exact rectV_eq _ _ _ _)) (hi := by (try simp only [rowOf_size, idC_size]); first | exact sizeID | exact sizeLabel) (hs := by first | (simp only [rowOf_size, idC_size]; done) | rfl) (h1 := by first | rfl | exact idC_one _ | exact rowOf_one _ _ (fun _ _ => rfl) | (simp only [List.size_toArray, List.length_cons, List.all_toArray', List.all_cons, List.all_nil, Value.oneCell', Bool.and_true, Bool.and_self]; done) | (simp [Value.oneCell']; done)) (h := ?_); clear hm; intro w1 hm; (try simp only [rowOf_set, k1, k2, k3, Value.cells, Act.eval, k7, k8, k9, kA, Option.getD_some] at hm)) | (refine wlSC (hm := hm) (hi := by first | exact sizeStr | exact sizeByteI | exact sizeInt | exact sizeU64) (ho := by first | decide | (simp only [rowOf_size, idC_size]; omega) | (simp; done)) (h := ?_); clear hm; intro w1 hm; (try simp only [rowOf_set, k1, k2, k3, Value.cells, Act.eval, k7, k8, k9, kA, Option.getD_some] at hm)) | (refine wlA (hz := by first | exact zeroID | exact zeroLabel) (hm := hm) (h := ?_); clear hm; intro b1 w1 hm; (try simp only [rowOf_set, k1, k2, k3, Value.cells, Act.eval, k7, k8, k9, kA, Option.getD_some] at hm)) | (refine wl_box (by rfl) rfl (by first | exact idV_cells _ | exact labV_cells _ _ | exact rectV_cells _ _ _ _ | rfl) hm ?_; clear hm; intro b1 w1 hm) | (go_at_call 55; refine (h1 _ (hm.heap (by with_reducible first | exact at0 | exact at1 | exact at2 | exact at3 | exact at4))).mono ?_; rintro e w1 ⟨rfl, hx⟩; replace hm := hm.callAt (by with_reducible first | exact at0 | exact at1 | exact at2 | exact at3 | exact at4) hx; clear hx; simp only [k2, k3] at hm) | (with_reducible first | refine stBs ?_ | refine stMs ?_ | refine stAp ?_ | refine stCo ?_)); (try simp only [k4, k5, k6, Act.put, k1, k2, k3]))
  refine bodyPost_ret (results_row_tmp (h := rfl) _ _ _ _ _ _ _ rfl (hm.heap (i := 0) rfl) undID rfl (by first | exact sizeID | (simp only [rowOf_size, idC_size]; exact sizeID))) rfl ?_
  exact ⟨by rw [idV_eq a] <;> rfl, hm.tail⟩
/-- A place's bytes, read. -/
theorem Place_ok (b m a : Nat) (f : Nat → Nat) (h : 20 ≤ m) (ha : ∀ j, j < 20 → f j = dig a j) : Takes 30 #[.pointer (some ⟨b, 0, none⟩)] b (bytesB m f) (.tuple #[idV a, .int .i64 0]) (bytesB (m - 20) (dropF 20 f)) := by
  have h1 := takeB_ok b m 20 f h
  rw [show bytesB 20 f = bytesB 20 (dig a) from bytesB_congr ha] at h1
  exact Place_go b a _ _ _ (readI_ok b a _ _ (place_ok b a _ _ h1))
theorem Place_err (b m : Nat) (f : Nat → Nat) (h : m < 20) : Takes 30 #[.pointer (some ⟨b, 0, none⟩)] b (bytesB m f) (.tuple #[idV 0, .int .i64 4]) (bytesB m f) :=
  Place_go b 0 _ _ _ (readI_err b 0 _ _ _ (by decide) (place_err b _ _ _ (take_more b _ m 20 (bytesB_size _ _) h)))
end Go.Proofs.Ytijkmbebfodhdaa

/- (WirI)
  Wire: a label that is read.
-/
namespace Go.Proofs.Ytijkmbebfodhdaa
open Go.RowKit
set_option linter.unusedSimpArgs false
set_option linter.unusedVariables false
set_option maxHeartbeats 1000000
set_option maxRecDepth 20000
attribute [local irreducible] wpQuiet wpList wpAnyH Calls

theorem built_lab1 (x : Int) : Try.prog.built 26 [(0, .int .i64 x)] = some #[.int .i64 x, .int .u64 0] := by kernel_rfl
theorem label_err1 (b : Nat) (s r x : ByteArray) (h1 : Takes 84 #[.pointer (some ⟨b, 0, none⟩), .int .i64 1] b s (.tuple #[.string x, .int .i64 4]) r) :
    Takes 53 #[.pointer (some ⟨b, 0, none⟩)] b s (.tuple #[labV 0 0, .int .i64 4]) r := by
  intro w hw
  rw [labV_eq 0 0]
  go_enter Try.func53, Try.ntmps53
  have hm := Mem.start hw
  go_wp2_with ((first | refine wpList_skip (by rfl) ?_ | (refine wlL (hm := hm) (hu := by first | exact undID | exact undLabel) (hi := by (try simp only [rowOf_size, idC_size]); first | exact sizeID | exact sizeLabel) (h := ?_); (try simp only [Act.put, k1, k2, k3]); (try simp only [← labV_eq, ← idV_eq])) | refine wlLC (hm := hm) (hu := by first | exact undStr | exact undByteI | exact undInt | exact undU64) (h := ?_) | (refine wlS (hm := hm) (hv := (by first | rfl | exact idV_eq _ | exact labV_eq _ _ | exact rectV_eq _ _ _ _)) (hi := by (try simp only [rowOf_size, idC_size]); first | exact sizeID | exact sizeLabel) (hs := by first | (simp only [rowOf_size, idC_size]; done) | rfl) (h1 := by first | rfl | exact idC_one _ | exact rowOf_one _ _ (fun _ _ => rfl) | (simp only [List.size_toArray, List.length_cons, List.all_toArray', List.all_cons, List.all_nil, Value.oneCell', Bool.and_true, Bool.and_self]; done) | (simp [Value.oneCell']; done)) (h := ?_); clear hm; intro w1 hm; (try simp only [rowOf_set, k1, k2, k3, Value.cells, Act.eval, k7, k8, k9, kA, Option.getD_some] at hm)) | (refine wlSC (hm := hm) (hi := by first | exact sizeStr | exact sizeByteI | exact sizeInt | exact sizeU64) (ho := by first | decide | (simp only [rowOf_size, idC_size]; omega) | (simp; done)) (h := ?_); clear hm; intro w1 hm; (try simp only [rowOf_set, k1, k2, k3, Value.cells, Act.eval, k7, k8, k9, kA, Option.getD_some] at hm)) | (refine wlA (hz := by first | exact zeroID | exact zeroLabel) (hm := hm) (h := ?_); clear hm; intro b1 w1 hm; (try simp only [rowOf_set, k1, k2, k3, Value.cells, Act.eval, k7, k8, k9, kA, Option.getD_some] at hm)) | (refine wl_box (by rfl) rfl (by first | exact idV_cells _ | exact labV_cells _ _ | exact rectV_cells _ _ _ _ | rfl) hm ?_; clear hm; intro b1 w1 hm) | (refine wl_build (by rfl) (built_zeroL) rfl ?_; (try simp only [Act.put, k1, k2, k3]); (try simp only [← labV_eq, ← idV_eq])) | (refine wl_build (by rfl) (built_lab1 _) rfl ?_; (try simp only [Act.put, k1, k2, k3]); (try simp only [← labV_eq, ← idV_eq])) | (go_at_call 84; refine (h1 _ (hm.heap (by with_reducible first | exact at0 | exact at1 | exact at2 | exact at3 | exact at4))).mono ?_; rintro e w1 ⟨rfl, hx⟩; replace hm := hm.callAt (by with_reducible first | exact at0 | exact at1 | exact at2 | exact at3 | exact at4) hx; clear hx; simp only [k2, k3] at hm) | (with_reducible first | refine stBs ?_ | refine stMs ?_ | refine stAp ?_ | refine stCo ?_)); (try simp only [k4, k5, k6, Act.put, k1, k2, k3]))
  refine bodyPost_ret (results_row_tmp (h := rfl) _ _ _ _ _ _ _ rfl (hm.heap (i := 0) rfl) undLabel rfl (by first | exact sizeLabel | (simp only [rowOf_size, idC_size]; exact sizeLabel))) rfl ?_
  exact ⟨rfl, hm.tail⟩
theorem label_form1 (b : Nat) (s r t0 : ByteArray) (n : Nat) (hn : 64 < n) (hn2 : n < 256) (hI0 : ∀ w, (Instr.index 9 (.string t0) (.int .i64 0)).run Try.prog w = .ok (.int .u8 (n : Int)) w)
    (h1 : Takes 84 #[.pointer (some ⟨b, 0, none⟩), .int .i64 1] b s (.tuple #[.string t0, .int .i64 0]) r) :
    Takes 53 #[.pointer (some ⟨b, 0, none⟩)] b s (.tuple #[labV 0 0, .int .i64 3]) r := by
  intro w hw
  rw [labV_eq 0 0]
  have f1 : IntKind.i64.wrap (n : Int) = (n : Int) := wrap_i64 (by omega) (by omega)
  go_enter Try.func53, Try.ntmps53
  have hm := Mem.start hw
  go_wp2_with ((first | refine wpList_skip (by rfl) ?_ | (refine wlL (hm := hm) (hu := by first | exact undID | exact undLabel) (hi := by (try simp only [rowOf_size, idC_size]); first | exact sizeID | exact sizeLabel) (h := ?_); (try simp only [Act.put, k1, k2, k3]); (try simp only [← labV_eq, ← idV_eq])) | refine wlLC (hm := hm) (hu := by first | exact undStr | exact undByteI | exact undInt | exact undU64) (h := ?_) | (refine wlS (hm := hm) (hv := (by first | rfl | exact idV_eq _ | exact labV_eq _ _ | exact rectV_eq _ _ _ _)) (hi := by (try simp only [rowOf_size, idC_size]); first | exact sizeID | exact sizeLabel) (hs := by first | (simp only [rowOf_size, idC_size]; done) | rfl) (h1 := by first | rfl | exact idC_one _ | exact rowOf_one _ _ (fun _ _ => rfl) | (simp only [List.size_toArray, List.length_cons, List.all_toArray', List.all_cons, List.all_nil, Value.oneCell', Bool.and_true, Bool.and_self]; done) | (simp [Value.oneCell']; done)) (h := ?_); clear hm; intro w1 hm; (try simp only [rowOf_set, k1, k2, k3, Value.cells, Act.eval, k7, k8, k9, kA, Option.getD_some] at hm)) | (refine wlSC (hm := hm) (hi := by first | exact sizeStr | exact sizeByteI | exact sizeInt | exact sizeU64) (ho := by first | decide | (simp only [rowOf_size, idC_size]; omega) | (simp; done)) (h := ?_); clear hm; intro w1 hm; (try simp only [rowOf_set, k1, k2, k3, Value.cells, Act.eval, k7, k8, k9, kA, Option.getD_some] at hm)) | (refine wlA (hz := by first | exact zeroID | exact zeroLabel) (hm := hm) (h := ?_); clear hm; intro b1 w1 hm; (try simp only [rowOf_set, k1, k2, k3, Value.cells, Act.eval, k7, k8, k9, kA, Option.getD_some] at hm)) | (refine wl_box (by rfl) rfl (by first | exact idV_cells _ | exact labV_cells _ _ | exact rectV_cells _ _ _ _ | rfl) hm ?_; clear hm; intro b1 w1 hm) | (refine wl_build (by rfl) (built_zeroL) rfl ?_; (try simp only [Act.put, k1, k2, k3]); (try simp only [← labV_eq, ← idV_eq])) | (refine wl_build (by rfl) (built_lab1 _) rfl ?_; (try simp only [Act.put, k1, k2, k3]); (try simp only [← labV_eq, ← idV_eq])) | (go_at_call 84; refine (h1 _ (hm.heap (by with_reducible first | exact at0 | exact at1 | exact at2 | exact at3 | exact at4))).mono ?_; rintro e w1 ⟨rfl, hx⟩; replace hm := hm.callAt (by with_reducible first | exact at0 | exact at1 | exact at2 | exact at3 | exact at4) hx; clear hx; simp only [k2, k3] at hm) | (with_reducible first | refine stBs ?_ | refine stMs ?_ | refine stAp ?_ | refine stCo ?_)); (try simp only [k4, k5, k6, Act.put, k1, k2, k3]))
  refine bodyPost_ret (results_row_tmp (h := rfl) _ _ _ _ _ _ _ rfl (hm.heap (i := 1) rfl) undLabel rfl (by first | exact sizeLabel | (simp only [rowOf_size, idC_size]; exact sizeLabel))) rfl ?_
  exact ⟨rfl, hm.tail.tail⟩
theorem label_err2 (b : Nat) (s s1 r t0 x : ByteArray) (n c : Nat) (hn : ¬ 64 < n) (hc : (n + 7) / 8 = c) (hI0 : ∀ w, (Instr.index 9 (.string t0) (.int .i64 0)).run Try.prog w = .ok (.int .u8 (n : Int)) w)
    (h1 : Takes 84 #[.pointer (some ⟨b, 0, none⟩), .int .i64 1] b s (.tuple #[.string t0, .int .i64 0]) s1)
    (h2 : Takes 84 #[.pointer (some ⟨b, 0, none⟩), .int .i64 (c : Int)] b s1 (.tuple #[.string x, .int .i64 4]) r) :
    Takes 53 #[.pointer (some ⟨b, 0, none⟩)] b s (.tuple #[labV 0 0, .int .i64 4]) r := by
  intro w hw
  rw [labV_eq 0 0]
  have f1 : IntKind.i64.wrap (n : Int) = (n : Int) := wrap_i64 (by omega) (by omega)
  obtain ⟨n8, hn8⟩ : ∃ x, n + 8 = x := ⟨_, rfl⟩
  obtain ⟨n7, hn7⟩ : ∃ x, n + 7 = x := ⟨_, rfl⟩
  have f2 : IntKind.i64.wrap ((n : Int) + 8) = (n8 : Int) := by rw [wrap_i64 (by omega) (by omega)]; omega
  have f3 : IntKind.i64.wrap ((n8 : Int) - 1) = (n7 : Int) := by rw [wrap_i64 (by omega) (by omega)]; omega
  have f4 : (n7 : Int) / 8 = (c : Int) := by omega
  have f5 : (n7 : Int).tdiv 8 = (c : Int) := by rw [Int.tdiv_eq_ediv_of_nonneg (by omega)]; exact f4
  have f6 : IntKind.i64.wrap (c : Int) = (c : Int) := wrap_i64 (by omega) (by omega)
  clear hn8 hn7 hc
  go_enter Try.func53, Try.ntmps53
  have hm := Mem.start hw
  go_wp2_with ((first | refine wpList_skip (by rfl) ?_ | (refine wlL (hm := hm) (hu := by first | exact undID | exact undLabel) (hi := by (try simp only [rowOf_size, idC_size]); first | exact sizeID | exact sizeLabel) (h := ?_); (try simp only [Act.put, k1, k2, k3]); (try simp only [← labV_eq, ← idV_eq])) | refine wlLC (hm := hm) (hu := by first | exact undStr | exact undByteI | exact undInt | exact undU64) (h := ?_) | (refine wlS (hm := hm) (hv := (by first | rfl | exact idV_eq _ | exact labV_eq _ _ | exact rectV_eq _ _ _ _)) (hi := by (try simp only [rowOf_size, idC_size]); first | exact sizeID | exact sizeLabel) (hs := by first | (simp only [rowOf_size, idC_size]; done) | rfl) (h1 := by first | rfl | exact idC_one _ | exact rowOf_one _ _ (fun _ _ => rfl) | (simp only [List.size_toArray, List.length_cons, List.all_toArray', List.all_cons, List.all_nil, Value.oneCell', Bool.and_true, Bool.and_self]; done) | (simp [Value.oneCell']; done)) (h := ?_); clear hm; intro w1 hm; (try simp only [rowOf_set, k1, k2, k3, Value.cells, Act.eval, k7, k8, k9, kA, Option.getD_some] at hm)) | (refine wlSC (hm := hm) (hi := by first | exact sizeStr | exact sizeByteI | exact sizeInt | exact sizeU64) (ho := by first | decide | (simp only [rowOf_size, idC_size]; omega) | (simp; done)) (h := ?_); clear hm; intro w1 hm; (try simp only [rowOf_set, k1, k2, k3, Value.cells, Act.eval, k7, k8, k9, kA, Option.getD_some] at hm)) | (refine wlA (hz := by first | exact zeroID | exact zeroLabel) (hm := hm) (h := ?_); clear hm; intro b1 w1 hm; (try simp only [rowOf_set, k1, k2, k3, Value.cells, Act.eval, k7, k8, k9, kA, Option.getD_some] at hm)) | (refine wl_box (by rfl) rfl (by first | exact idV_cells _ | exact labV_cells _ _ | exact rectV_cells _ _ _ _ | rfl) hm ?_; clear hm; intro b1 w1 hm) | (refine wl_build (by rfl) (built_zeroL) rfl ?_; (try simp only [Act.put, k1, k2, k3]); (try simp only [← labV_eq, ← idV_eq])) | (refine wl_build (by rfl) (built_lab1 _) rfl ?_; (try simp only [Act.put, k1, k2, k3]); (try simp only [← labV_eq, ← idV_eq])) | (go_at_call 84; refine (h1 _ (hm.heap (by with_reducible first | exact at0 | exact at1 | exact at2 | exact at3 | exact at4))).mono ?_; rintro e w1 ⟨rfl, hx⟩; replace hm := hm.callAt (by with_reducible first | exact at0 | exact at1 | exact at2 | exact at3 | exact at4) hx; clear hx; simp only [k2, k3] at hm) | (go_at_call 84; refine (h2 _ (hm.heap (by with_reducible first | exact at0 | exact at1 | exact at2 | exact at3 | exact at4))).mono ?_; rintro e w1 ⟨rfl, hx⟩; replace hm := hm.callAt (by with_reducible first | exact at0 | exact at1 | exact at2 | exact at3 | exact at4) hx; clear hx; simp only [k2, k3] at hm) | (with_reducible first | refine stBs ?_ | refine stMs ?_ | refine stAp ?_ | refine stCo ?_)); (try simp only [k4, k5, k6, Act.put, k1, k2, k3]))
  refine bodyPost_ret (results_row_tmp (h := rfl) _ _ _ _ _ _ _ rfl (hm.heap (i := 1) rfl) undLabel rfl (by first | exact sizeLabel | (simp only [rowOf_size, idC_size]; exact sizeLabel))) rfl ?_
  exact ⟨rfl, hm.tail.tail⟩
/-- Bits out of bytes, the first one highest. -/
def labAcc (F : Nat → Nat) : Nat → Nat
  | 0 => 0
  | k + 1 => labAcc F k + F k * 2 ^ (56 - 8 * k)
theorem labAcc_ok (F : Nat → Nat) (hF : ∀ k, F k < 256) : ∀ k, k ≤ 8 → labAcc F k % 2 ^ (64 - 8 * k) = 0 ∧ labAcc F k < 2 ^ 64
  | 0, _ => ⟨Nat.zero_mod _, by show 0 < 2 ^ 64; decide⟩
  | k + 1, h => by
    obtain ⟨h1, h2⟩ := labAcc_ok F hF k (by omega)
    have hf := hF k
    have e : 2 ^ (64 - 8 * k) = 2 ^ (56 - 8 * k) * 256 := by rw [show 64 - 8 * k = 56 - 8 * k + 8 from by omega, Nat.pow_add]
    obtain ⟨q, hq⟩ : ∃ q, labAcc F k = 2 ^ (64 - 8 * k) * q := ⟨_, (Nat.mul_div_cancel' (Nat.dvd_of_mod_eq_zero h1)).symm⟩
    have e2 : labAcc F (k + 1) = 2 ^ (56 - 8 * k) * (256 * q + F k) := by rw [labAcc, hq, e, Nat.mul_add, Nat.mul_assoc, Nat.mul_comm (F k)]
    have e64 : 2 ^ 64 = 2 ^ (64 - 8 * k) * 2 ^ (8 * k) := by rw [← Nat.pow_add]; congr 1; omega
    refine ⟨by rw [show 64 - 8 * (k + 1) = 56 - 8 * k from by omega, e2]; exact Nat.mul_mod_right _ _, ?_⟩
    have hq2 : q < 2 ^ (8 * k) := by
      rw [hq, e64] at h2
      exact Nat.lt_of_mul_lt_mul_left h2
    rw [e2, e64, e, Nat.mul_assoc]
    refine Nat.mul_lt_mul_of_pos_left ?_ (Nat.pow_pos (by omega))
    omega
theorem labAcc_or (F : Nat → Nat) (hF : ∀ k, F k < 256) (k : Nat) (h : k < 8) : labAcc F k ||| F k * 2 ^ (56 - 8 * k) = labAcc F (k + 1) := by
  obtain ⟨h1, h2⟩ := labAcc_ok F hF k (by omega)
  have hf := hF k
  have e : 2 ^ (64 - 8 * k) = 2 ^ (56 - 8 * k) * 256 := by rw [show 64 - 8 * k = 56 - 8 * k + 8 from by omega, Nat.pow_add]
  obtain ⟨q, hq⟩ : ∃ q, labAcc F k = 2 ^ (64 - 8 * k) * q := ⟨_, (Nat.mul_div_cancel' (Nat.dvd_of_mod_eq_zero h1)).symm⟩
  rw [labAcc, hq, Nat.two_pow_add_eq_or_of_lt]
  rw [e, Nat.mul_comm]
  exact Nat.mul_lt_mul_of_pos_left hf (Nat.pow_pos (by omega))
theorem label_go (b : Nat) (s s1 r t0 t : ByteArray) (n c : Nat) (F : Nat → Nat) (hF : ∀ k, F k < 256) (hn : ¬ 64 < n) (hc : (n + 7) / 8 = c) (ht : t.size = c) (q : Bool)
    (hI0 : ∀ w, (Instr.index 9 (.string t0) (.int .i64 0)).run Try.prog w = .ok (.int .u8 (n : Int)) w) (hI : ∀ k : Nat, k < c → ∀ w, (Instr.index 9 (.string t) (.int .i64 (k : Int))).run Try.prog w = .ok (.int .u8 ((F k : Nat) : Int)) w)
    (hi : Says 33 #[labV (n : Int) (labAcc F c)] (.bool q))
    (h1 : Takes 84 #[.pointer (some ⟨b, 0, none⟩), .int .i64 1] b s (.tuple #[.string t0, .int .i64 0]) s1)
    (h2 : Takes 84 #[.pointer (some ⟨b, 0, none⟩), .int .i64 (c : Int)] b s1 (.tuple #[.string t, .int .i64 0]) r) :
    Takes 53 #[.pointer (some ⟨b, 0, none⟩)] b s (if q then .tuple #[labV (n : Int) (labAcc F c), .int .i64 0] else .tuple #[labV 0 0, .int .i64 3]) r := by
  intro w hw
  obtain ⟨res, hres⟩ : ∃ res, (if q then Value.tuple #[labV (n : Int) (labAcc F c), .int .i64 0] else .tuple #[labV 0 0, .int .i64 3]) = res := ⟨_, rfl⟩
  rw [hres]
  have HRes := hid hres
  have HF := hid hF
  have HI := hid hI
  have f1 : IntKind.i64.wrap (n : Int) = (n : Int) := wrap_i64 (by omega) (by omega)
  obtain ⟨n8, hn8⟩ : ∃ x, n + 8 = x := ⟨_, rfl⟩
  obtain ⟨n7, hn7⟩ : ∃ x, n + 7 = x := ⟨_, rfl⟩
  have f2 : IntKind.i64.wrap ((n : Int) + 8) = (n8 : Int) := by rw [wrap_i64 (by omega) (by omega)]; omega
  have f3 : IntKind.i64.wrap ((n8 : Int) - 1) = (n7 : Int) := by rw [wrap_i64 (by omega) (by omega)]; omega
  have f4 : (n7 : Int) / 8 = (c : Int) := by omega
  have f5 : (n7 : Int).tdiv 8 = (c : Int) := by rw [Int.tdiv_eq_ediv_of_nonneg (by omega)]; exact f4
  have f6 : IntKind.i64.wrap (c : Int) = (c : Int) := wrap_i64 (by omega) (by omega)
  have HC := hid (show c ≤ 8 from by omega)
  clear hn8 hn7 hc hres hF hI
  have Hi := hid hi
  clear hi
  go_enter Try.func53, Try.ntmps53
  have hm := Mem.start hw
  clear hw
  go_wp2_with (with_reducible first | refine stAl ?_ | refine stBo ?_ | refine stLo ?_ | refine stSo ?_ | refine stBu ?_ | refine stBs ?_ | refine stMs ?_ | refine stAp ?_ | refine stCo ?_); refine Stop.go (wl_alloc (by rfl) zeroLabel rfl hm ?_); clear hm; intro b2 w2 hm; simp only [Act.put, k1, k2, k3]; (try simp only [rowOf_set, k1, k2, k3, Value.cells, Act.eval, k7, k8, k9, kA, Option.getD_some] at hm)
  go_wp2_with ((first | refine wpList_skip (by rfl) ?_ | (refine wlL (hm := hm) (hu := by first | exact undID | exact undLabel) (hi := by (try simp only [rowOf_size, idC_size]); first | exact sizeID | exact sizeLabel) (h := ?_); (try simp only [Act.put, k1, k2, k3]); (try simp only [← labV_eq, ← idV_eq])) | refine wlLC (hm := hm) (hu := by first | exact undStr | exact undByteI | exact undInt | exact undU64) (h := ?_) | (refine wlS (hm := hm) (hv := (by first | rfl | exact idV_eq _ | exact labV_eq _ _ | exact rectV_eq _ _ _ _)) (hi := by (try simp only [rowOf_size, idC_size]); first | exact sizeID | exact sizeLabel) (hs := by first | (simp only [rowOf_size, idC_size]; done) | rfl) (h1 := by first | rfl | exact idC_one _ | exact rowOf_one _ _ (fun _ _ => rfl) | (simp only [List.size_toArray, List.length_cons, List.all_toArray', List.all_cons, List.all_nil, Value.oneCell', Bool.and_true, Bool.and_self]; done) | (simp [Value.oneCell']; done)) (h := ?_); clear hm; intro w1 hm; (try simp only [rowOf_set, k1, k2, k3, Value.cells, Act.eval, k7, k8, k9, kA, Option.getD_some] at hm)) | (refine wlSC (hm := hm) (hi := by first | exact sizeStr | exact sizeByteI | exact sizeInt | exact sizeU64) (ho := by first | decide | (simp only [rowOf_size, idC_size]; omega) | (simp; done)) (h := ?_); clear hm; intro w1 hm; (try simp only [rowOf_set, k1, k2, k3, Value.cells, Act.eval, k7, k8, k9, kA, Option.getD_some] at hm)) | (refine wlA (hz := by first | exact zeroID | exact zeroLabel) (hm := hm) (h := ?_); clear hm; intro b1 w1 hm; (try simp only [rowOf_set, k1, k2, k3, Value.cells, Act.eval, k7, k8, k9, kA, Option.getD_some] at hm)) | (refine wl_box (by rfl) rfl (by first | exact idV_cells _ | exact labV_cells _ _ | exact rectV_cells _ _ _ _ | rfl) hm ?_; clear hm; intro b1 w1 hm) | (refine wl_build (by rfl) (built_zeroL) rfl ?_; (try simp only [Act.put, k1, k2, k3]); (try simp only [← labV_eq, ← idV_eq])) | (refine wl_build (by rfl) (built_lab1 _) rfl ?_; (try simp only [Act.put, k1, k2, k3]); (try simp only [← labV_eq, ← idV_eq])) | (go_at_call 84; refine (h1 _ (hm.heap (by with_reducible first | exact at0 | exact at1 | exact at2 | exact at3 | exact at4))).mono ?_; rintro e w1 ⟨rfl, hx⟩; replace hm := hm.callAt (by with_reducible first | exact at0 | exact at1 | exact at2 | exact at3 | exact at4) hx; clear hx; simp only [k2, k3] at hm) | (go_at_call 84; refine (h2 _ (hm.heap (by with_reducible first | exact at0 | exact at1 | exact at2 | exact at3 | exact at4))).mono ?_; rintro e w1 ⟨rfl, hx⟩; replace hm := hm.callAt (by with_reducible first | exact at0 | exact at1 | exact at2 | exact at3 | exact at4) hx; clear hx; simp only [k2, k3] at hm) | (with_reducible first | refine stBs ?_ | refine stMs ?_ | refine stAp ?_ | refine stCo ?_)); (try simp only [k4, k5, k6, Act.put, k1, k2, k3]))
  clear h1 h2 hI0 f1 f2 f3 f4 f5 f6 hn
  go_loopw [41] (fun vi wr => ∃ k : Nat, k ≤ c ∧ vi = .int .i64 (k : Int) ∧ Mem w [b] [(b1, .cells #[.int .i64 (n : Int), .int .u64 ((labAcc F k : Nat) : Int)] 26 (0, 0)), (b2, .cells #[.int .i64 0, .int .u64 0] 26 (0, 0)), (b, .cells #[.string r] 76 (0, 0))] wr)
    (fun vi _ => (c - intOf vi).toNat)
  case atStart => exact ⟨0, by omega, rfl, hm⟩
  case round =>
    clear hm
    obtain ⟨k, hk, rfl, hm⟩ := hrel
    by_cases hkc : k < c
    · have hi := HI.out k hkc
      have hfk := HF.out k
      have hc8 := HC.out
      obtain ⟨hA1, hA2⟩ := labAcc_ok F HF.out k (by omega)
      obtain ⟨hB1, hB2⟩ := labAcc_ok F HF.out (k + 1) (by omega)
      have hor := labAcc_or F HF.out k (by omega)
      obtain ⟨y, hy⟩ : ∃ y, F k = y := ⟨_, rfl⟩
      obtain ⟨v, hv⟩ : ∃ v, labAcc F k = v := ⟨_, rfl⟩
      obtain ⟨v', hv'⟩ : ∃ v', labAcc F (k + 1) = v' := ⟨_, rfl⟩
      obtain ⟨x, hx⟩ : ∃ x, 56 - 8 * k = x := ⟨_, rfl⟩
      obtain ⟨x8, hx8⟩ : ∃ x, 8 * k = x := ⟨_, rfl⟩
      rw [hy] at hi hfk hor
      rw [hv] at hm hor hA2
      rw [hv'] at hor hB2
      rw [hx] at hor
      have hp : 2 ^ x ≤ 2 ^ 56 := Nat.pow_le_pow_right (by omega) (by omega)
      have hz64 : y * 2 ^ x < 2 ^ 64 := by
        have := Nat.mul_lt_mul_of_lt_of_le hfk hp (Nat.pow_pos (by omega))
        omega
      obtain ⟨z, hz⟩ : ∃ z, y * 2 ^ x = z := ⟨_, rfl⟩
      rw [hz] at hor hz64
      have g0 : IntKind.u64.wrap (y : Int) = (y : Int) := wrap_u64 (by omega) (by omega)
      have g1 : IntKind.i64.wrap (8 * (k : Int)) = (x8 : Int) := by rw [wrap_i64 (by omega) (by omega)]; omega
      have g2 : IntKind.i64.wrap (56 - (x8 : Int)) = (x : Int) := by rw [wrap_i64 (by omega) (by omega)]; omega
      have g3 : IntKind.u64.wrap ((y : Int) * 2 ^ x) = (z : Int) := by
        rw [show (y : Int) * 2 ^ x = ((y * 2 ^ x : Nat) : Int) from by push_cast; rfl, hz]
        exact wrap_u64 (by omega) (by omega)
      have hmin : min x 64 = x := by omega
      have g4 : bits .or .u64 (v : Int) (z : Int) = (v' : Int) := by rw [u64_or_nat _ _ hA2 hz64, hor]
      have g5 : IntKind.i64.wrap ((k : Int) + 1) = (k : Int) + 1 := wrap_i64 (by omega) (by omega)
      have z0 : (0 : Int) ≤ (x : Int) := by omega
      have e1 : (k : Int) < (c : Int) := by omega
      have HV := hid hv'
      clear hA1 hA2 hB1 hB2 hor hy hv hv' hx hx8 hp hz64 hz hc8 hfk hk
      go_wp2_with ((first | refine wpList_skip (by rfl) ?_ | (refine wlL (hm := hm) (hu := by first | exact undID | exact undLabel) (hi := by (try simp only [rowOf_size, idC_size]); first | exact sizeID | exact sizeLabel) (h := ?_); (try simp only [Act.put, k1, k2, k3]); (try simp only [← labV_eq, ← idV_eq])) | refine wlLC (hm := hm) (hu := by first | exact undStr | exact undByteI | exact undInt | exact undU64) (h := ?_) | (refine wlS (hm := hm) (hv := (by first | rfl | exact idV_eq _ | exact labV_eq _ _ | exact rectV_eq _ _ _ _)) (hi := by (try simp only [rowOf_size, idC_size]); first | exact sizeID | exact sizeLabel) (hs := by first | (simp only [rowOf_size, idC_size]; done) | rfl) (h1 := by first | rfl | exact idC_one _ | exact rowOf_one _ _ (fun _ _ => rfl) | (simp only [List.size_toArray, List.length_cons, List.all_toArray', List.all_cons, List.all_nil, Value.oneCell', Bool.and_true, Bool.and_self]; done) | (simp [Value.oneCell']; done)) (h := ?_); clear hm; intro w1 hm; (try simp only [rowOf_set, k1, k2, k3, Value.cells, Act.eval, k7, k8, k9, kA, Option.getD_some] at hm)) | (refine wlSC (hm := hm) (hi := by first | exact sizeStr | exact sizeByteI | exact sizeInt | exact sizeU64) (ho := by first | decide | (simp only [rowOf_size, idC_size]; omega) | (simp; done)) (h := ?_); clear hm; intro w1 hm; (try simp only [rowOf_set, k1, k2, k3, Value.cells, Act.eval, k7, k8, k9, kA, Option.getD_some] at hm)) | (refine wlA (hz := by first | exact zeroID | exact zeroLabel) (hm := hm) (h := ?_); clear hm; intro b1 w1 hm; (try simp only [rowOf_set, k1, k2, k3, Value.cells, Act.eval, k7, k8, k9, kA, Option.getD_some] at hm)) | (refine wl_box (by rfl) rfl (by first | exact idV_cells _ | exact labV_cells _ _ | exact rectV_cells _ _ _ _ | rfl) hm ?_; clear hm; intro b1 w1 hm) | (refine wl_build (by rfl) (built_zeroL) rfl ?_; (try simp only [Act.put, k1, k2, k3]); (try simp only [← labV_eq, ← idV_eq])) | (refine wl_build (by rfl) (built_lab1 _) rfl ?_; (try simp only [Act.put, k1, k2, k3]); (try simp only [← labV_eq, ← idV_eq])) | (go_at_call 33; refine (hi _).mono ?_; rintro e w1 ⟨rfl, hx⟩; replace hm := hm.call hx; clear hx) | (with_reducible first | refine stBs ?_ | refine stMs ?_ | refine stAp ?_ | refine stCo ?_)); (try simp only [k4, k5, k6, Act.put, k1, k2, k3]))
      go_wp2_with (with_reducible first | refine stAl ?_ | refine stBo ?_ | refine stLo ?_ | refine stSo ?_ | refine stBu ?_ | refine stBs ?_ | refine stMs ?_ | refine stAp ?_ | refine stCo ?_); refine wp_quiet_last 12 (by kernel_rfl) rfl (by kernel_rfl) (by kernel_rfl) hm ?_; simp only [List.take_succ_cons, List.take_zero, List.cons_append, List.nil_append, hush]
      repeat ((first | refine wq_skip (by rfl) ?_ | (refine wqL (hu := by first | exact undID | exact undLabel) (hi := by (try simp only [rowOf_size, idC_size]); first | exact sizeID | exact sizeLabel) (h := ?_); (try simp only [Act.put, k1, k2, k3]); (try simp only [← labV_eq, ← idV_eq])) | refine wqLC (hu := by first | exact undStr | exact undByteI | exact undInt | exact undU64) (h := ?_) | ((with_reducible show wpQuiet _ _ _ _ (⟨_, .call _, _, _, _, _⟩ :: _) _); refine wq_ask (by rfl) ?_; apply Exists.intro; refine ⟨?_, ?_⟩; (focus (intro w hC; go_simp; first | (go_at_call 33; exact (hi _).mono fun e w' h => ⟨h.1, hC.call h.2⟩)))) | (refine wq_build (by rfl) (built_zeroL) rfl ?_; (try simp only [Act.put, k1, k2, k3]); (try simp only [← labV_eq, ← idV_eq])) | (refine wq_build (by rfl) (built_lab1 _) rfl ?_; (try simp only [Act.put, k1, k2, k3]); (try simp only [← labV_eq, ← idV_eq])) | refine wqS (h := ?_)); (try simp only [k4, k5, k6, Act.put, k1, k2, k3]))
      refine wpQuiet_nil ?_; clear hm; intro w7 hm
      go_wp2_with ((first | refine wpList_skip (by rfl) ?_ | (refine wlL (hm := hm) (hu := by first | exact undID | exact undLabel) (hi := by (try simp only [rowOf_size, idC_size]); first | exact sizeID | exact sizeLabel) (h := ?_); (try simp only [Act.put, k1, k2, k3]); (try simp only [← labV_eq, ← idV_eq])) | refine wlLC (hm := hm) (hu := by first | exact undStr | exact undByteI | exact undInt | exact undU64) (h := ?_) | (refine wlS (hm := hm) (hv := (by first | rfl | exact idV_eq _ | exact labV_eq _ _ | exact rectV_eq _ _ _ _)) (hi := by (try simp only [rowOf_size, idC_size]); first | exact sizeID | exact sizeLabel) (hs := by first | (simp only [rowOf_size, idC_size]; done) | rfl) (h1 := by first | rfl | exact idC_one _ | exact rowOf_one _ _ (fun _ _ => rfl) | (simp only [List.size_toArray, List.length_cons, List.all_toArray', List.all_cons, List.all_nil, Value.oneCell', Bool.and_true, Bool.and_self]; done) | (simp [Value.oneCell']; done)) (h := ?_); clear hm; intro w1 hm; (try simp only [rowOf_set, k1, k2, k3, Value.cells, Act.eval, k7, k8, k9, kA, Option.getD_some] at hm)) | (refine wlSC (hm := hm) (hi := by first | exact sizeStr | exact sizeByteI | exact sizeInt | exact sizeU64) (ho := by first | decide | (simp only [rowOf_size, idC_size]; omega) | (simp; done)) (h := ?_); clear hm; intro w1 hm; (try simp only [rowOf_set, k1, k2, k3, Value.cells, Act.eval, k7, k8, k9, kA, Option.getD_some] at hm)) | (refine wlA (hz := by first | exact zeroID | exact zeroLabel) (hm := hm) (h := ?_); clear hm; intro b1 w1 hm; (try simp only [rowOf_set, k1, k2, k3, Value.cells, Act.eval, k7, k8, k9, kA, Option.getD_some] at hm)) | (refine wl_box (by rfl) rfl (by first | exact idV_cells _ | exact labV_cells _ _ | exact rectV_cells _ _ _ _ | rfl) hm ?_; clear hm; intro b1 w1 hm) | (refine wl_build (by rfl) (built_zeroL) rfl ?_; (try simp only [Act.put, k1, k2, k3]); (try simp only [← labV_eq, ← idV_eq])) | (refine wl_build (by rfl) (built_lab1 _) rfl ?_; (try simp only [Act.put, k1, k2, k3]); (try simp only [← labV_eq, ← idV_eq])) | (go_at_call 33; refine (hi _).mono ?_; rintro e w1 ⟨rfl, hx⟩; replace hm := hm.call hx; clear hx) | (with_reducible first | refine stBs ?_ | refine stMs ?_ | refine stAp ?_ | refine stCo ?_)); (try simp only [k4, k5, k6, Act.put, k1, k2, k3]))
      go_roundw
      case rel => exact ⟨k + 1, by omega, by go_num, by rw [HV.out]; exact hm⟩
      case measure => (simp [intOf]; try omega)
    · obtain rfl : k = c := by omega
      have hi := Hi.out
      obtain ⟨v, hv⟩ : ∃ v, labAcc F k = v := ⟨_, rfl⟩
      have hrs := HRes.out
      rw [hv] at hm hi hrs
      have HR2 := hid hrs
      clear hrs hk hkc hv
      cases q with
      | false =>
        have hrs := HR2.out
        rw [if_neg (by decide), labV_eq 0 0] at hrs
        have HR3 := hid hrs
        clear hrs HR2 HRes
        go_wp2_with ((first | refine wpList_skip (by rfl) ?_ | (refine wlL (hm := hm) (hu := by first | exact undID | exact undLabel) (hi := by (try simp only [rowOf_size, idC_size]); first | exact sizeID | exact sizeLabel) (h := ?_); (try simp only [Act.put, k1, k2, k3]); (try simp only [← labV_eq, ← idV_eq])) | refine wlLC (hm := hm) (hu := by first | exact undStr | exact undByteI | exact undInt | exact undU64) (h := ?_) | (refine wlS (hm := hm) (hv := (by first | rfl | exact idV_eq _ | exact labV_eq _ _ | exact rectV_eq _ _ _ _)) (hi := by (try simp only [rowOf_size, idC_size]); first | exact sizeID | exact sizeLabel) (hs := by first | (simp only [rowOf_size, idC_size]; done) | rfl) (h1 := by first | rfl | exact idC_one _ | exact rowOf_one _ _ (fun _ _ => rfl) | (simp only [List.size_toArray, List.length_cons, List.all_toArray', List.all_cons, List.all_nil, Value.oneCell', Bool.and_true, Bool.and_self]; done) | (simp [Value.oneCell']; done)) (h := ?_); clear hm; intro w1 hm; (try simp only [rowOf_set, k1, k2, k3, Value.cells, Act.eval, k7, k8, k9, kA, Option.getD_some] at hm)) | (refine wlSC (hm := hm) (hi := by first | exact sizeStr | exact sizeByteI | exact sizeInt | exact sizeU64) (ho := by first | decide | (simp only [rowOf_size, idC_size]; omega) | (simp; done)) (h := ?_); clear hm; intro w1 hm; (try simp only [rowOf_set, k1, k2, k3, Value.cells, Act.eval, k7, k8, k9, kA, Option.getD_some] at hm)) | (refine wlA (hz := by first | exact zeroID | exact zeroLabel) (hm := hm) (h := ?_); clear hm; intro b1 w1 hm; (try simp only [rowOf_set, k1, k2, k3, Value.cells, Act.eval, k7, k8, k9, kA, Option.getD_some] at hm)) | (refine wl_box (by rfl) rfl (by first | exact idV_cells _ | exact labV_cells _ _ | exact rectV_cells _ _ _ _ | rfl) hm ?_; clear hm; intro b1 w1 hm) | (refine wl_build (by rfl) (built_zeroL) rfl ?_; (try simp only [Act.put, k1, k2, k3]); (try simp only [← labV_eq, ← idV_eq])) | (refine wl_build (by rfl) (built_lab1 _) rfl ?_; (try simp only [Act.put, k1, k2, k3]); (try simp only [← labV_eq, ← idV_eq])) | (go_at_call 33; refine (hi _).mono ?_; rintro e w1 ⟨rfl, hx⟩; replace hm := hm.call hx; clear hx) | (with_reducible first | refine stBs ?_ | refine stMs ?_ | refine stAp ?_ | refine stCo ?_)); (try simp only [k4, k5, k6, Act.put, k1, k2, k3]))
        refine bodyPost_ret (results_row_tmp (h := rfl) _ _ _ _ _ _ _ rfl (hm.heap (i := 1) rfl) undLabel rfl (by first | exact sizeLabel | (simp only [rowOf_size, idC_size]; exact sizeLabel))) rfl ?_
        exact ⟨by rw [← HR3.out] <;> rfl, hm.tail.tail⟩
      | true =>
        have hrs := HR2.out
        rw [if_pos rfl, labV_eq (n : Int) v] at hrs
        have HR3 := hid hrs
        clear hrs HR2 HRes
        go_wp2_with ((first | refine wpList_skip (by rfl) ?_ | (refine wlL (hm := hm) (hu := by first | exact undID | exact undLabel) (hi := by (try simp only [rowOf_size, idC_size]); first | exact sizeID | exact sizeLabel) (h := ?_); (try simp only [Act.put, k1, k2, k3]); (try simp only [← labV_eq, ← idV_eq])) | refine wlLC (hm := hm) (hu := by first | exact undStr | exact undByteI | exact undInt | exact undU64) (h := ?_) | (refine wlS (hm := hm) (hv := (by first | rfl | exact idV_eq _ | exact labV_eq _ _ | exact rectV_eq _ _ _ _)) (hi := by (try simp only [rowOf_size, idC_size]); first | exact sizeID | exact sizeLabel) (hs := by first | (simp only [rowOf_size, idC_size]; done) | rfl) (h1 := by first | rfl | exact idC_one _ | exact rowOf_one _ _ (fun _ _ => rfl) | (simp only [List.size_toArray, List.length_cons, List.all_toArray', List.all_cons, List.all_nil, Value.oneCell', Bool.and_true, Bool.and_self]; done) | (simp [Value.oneCell']; done)) (h := ?_); clear hm; intro w1 hm; (try simp only [rowOf_set, k1, k2, k3, Value.cells, Act.eval, k7, k8, k9, kA, Option.getD_some] at hm)) | (refine wlSC (hm := hm) (hi := by first | exact sizeStr | exact sizeByteI | exact sizeInt | exact sizeU64) (ho := by first | decide | (simp only [rowOf_size, idC_size]; omega) | (simp; done)) (h := ?_); clear hm; intro w1 hm; (try simp only [rowOf_set, k1, k2, k3, Value.cells, Act.eval, k7, k8, k9, kA, Option.getD_some] at hm)) | (refine wlA (hz := by first | exact zeroID | exact zeroLabel) (hm := hm) (h := ?_); clear hm; intro b1 w1 hm; (try simp only [rowOf_set, k1, k2, k3, Value.cells, Act.eval, k7, k8, k9, kA, Option.getD_some] at hm)) | (refine wl_box (by rfl) rfl (by first | exact idV_cells _ | exact labV_cells _ _ | exact rectV_cells _ _ _ _ | rfl) hm ?_; clear hm; intro b1 w1 hm) | (refine wl_build (by rfl) (built_zeroL) rfl ?_; (try simp only [Act.put, k1, k2, k3]); (try simp only [← labV_eq, ← idV_eq])) | (refine wl_build (by rfl) (built_lab1 _) rfl ?_; (try simp only [Act.put, k1, k2, k3]); (try simp only [← labV_eq, ← idV_eq])) | (go_at_call 33; refine (hi _).mono ?_; rintro e w1 ⟨rfl, hx⟩; replace hm := hm.call hx; clear hx) | (with_reducible first | refine stBs ?_ | refine stMs ?_ | refine stAp ?_ | refine stCo ?_)); (try simp only [k4, k5, k6, Act.put, k1, k2, k3]))
        refine bodyPost_ret (results_row_tmp (h := rfl) _ _ _ _ _ _ _ rfl (hm.heap (i := 1) rfl) undLabel rfl (by first | exact sizeLabel | (simp only [rowOf_size, idC_size]; exact sizeLabel))) rfl ?_
        exact ⟨by rw [← HR3.out] <;> rfl, hm.tail.tail⟩
theorem readL_nil (g : Value) : Says 52 #[.pointer none, g] (.tuple #[labV 0 0, .int .i64 6]) := by
  intro w
  rw [labV_eq 0 0]
  go_enter Try.func52, Try.ntmps52
  have hm := Mem.refl w []
  go_wp2_with ((first | refine wpList_skip (by rfl) ?_ | (refine wlL (hm := hm) (hu := by first | exact undID | exact undLabel) (hi := by (try simp only [rowOf_size, idC_size]); first | exact sizeID | exact sizeLabel) (h := ?_); (try simp only [Act.put, k1, k2, k3]); (try simp only [← labV_eq, ← idV_eq])) | refine wlLC (hm := hm) (hu := by first | exact undStr | exact undByteI | exact undInt | exact undU64) (h := ?_) | (refine wlS (hm := hm) (hv := (by first | rfl | exact idV_eq _ | exact labV_eq _ _ | exact rectV_eq _ _ _ _)) (hi := by (try simp only [rowOf_size, idC_size]); first | exact sizeID | exact sizeLabel) (hs := by first | (simp only [rowOf_size, idC_size]; done) | rfl) (h1 := by first | rfl | exact idC_one _ | exact rowOf_one _ _ (fun _ _ => rfl) | (simp only [List.size_toArray, List.length_cons, List.all_toArray', List.all_cons, List.all_nil, Value.oneCell', Bool.and_true, Bool.and_self]; done) | (simp [Value.oneCell']; done)) (h := ?_); clear hm; intro w1 hm; (try simp only [rowOf_set, k1, k2, k3, Value.cells, Act.eval, k7, k8, k9, kA, Option.getD_some] at hm)) | (refine wlSC (hm := hm) (hi := by first | exact sizeStr | exact sizeByteI | exact sizeInt | exact sizeU64) (ho := by first | decide | (simp only [rowOf_size, idC_size]; omega) | (simp; done)) (h := ?_); clear hm; intro w1 hm; (try simp only [rowOf_set, k1, k2, k3, Value.cells, Act.eval, k7, k8, k9, kA, Option.getD_some] at hm)) | (refine wlA (hz := by first | exact zeroID | exact zeroLabel) (hm := hm) (h := ?_); clear hm; intro b1 w1 hm; (try simp only [rowOf_set, k1, k2, k3, Value.cells, Act.eval, k7, k8, k9, kA, Option.getD_some] at hm)) | (refine wl_box (by rfl) rfl (by first | exact idV_cells _ | exact labV_cells _ _ | exact rectV_cells _ _ _ _ | rfl) hm ?_; clear hm; intro b1 w1 hm) | (refine wl_build (by rfl) (built_zeroL) rfl ?_; (try simp only [Act.put, k1, k2, k3]); (try simp only [← labV_eq, ← idV_eq])) | (refine wl_build (by rfl) (built_lab1 _) rfl ?_; (try simp only [Act.put, k1, k2, k3]); (try simp only [← labV_eq, ← idV_eq])) | (go_at_call 33; refine (hi _).mono ?_; rintro e w1 ⟨rfl, hx⟩; replace hm := hm.call hx; clear hx) | (with_reducible first | refine stBs ?_ | refine stMs ?_ | refine stAp ?_ | refine stCo ?_)); (try simp only [k4, k5, k6, Act.put, k1, k2, k3]))
  refine bodyPost_ret (results_row_tmp (h := rfl) _ _ _ _ _ _ _ rfl (hm.heap (i := 1) rfl) undLabel rfl (by first | exact sizeLabel | (simp only [rowOf_size, idC_size]; exact sizeLabel))) rfl ?_
  exact ⟨rfl, hm.ext⟩
theorem readL_ok (b : Nat) (s r : ByteArray) (l : Int) (k : Nat) (h1 : Takes 53 #[.pointer (some ⟨b, 0, none⟩)] b s (.tuple #[labV l k, .int .i64 0]) r) :
    Takes 52 #[.pointer (some ⟨b, 0, none⟩), .func (.func 53) #[.pointer (some ⟨b, 0, none⟩)] #[]] b s (.tuple #[labV l k, .int .i64 0]) r := by
  intro w hw
  go_enter Try.func52, Try.ntmps52
  have hm := Mem.start hw
  go_wp2_with ((first | refine wpList_skip (by rfl) ?_ | (refine wlL (hm := hm) (hu := by first | exact undID | exact undLabel) (hi := by (try simp only [rowOf_size, idC_size]); first | exact sizeID | exact sizeLabel) (h := ?_); (try simp only [Act.put, k1, k2, k3]); (try simp only [← labV_eq, ← idV_eq])) | refine wlLC (hm := hm) (hu := by first | exact undStr | exact undByteI | exact undInt | exact undU64) (h := ?_) | (refine wlS (hm := hm) (hv := (by first | rfl | exact idV_eq _ | exact labV_eq _ _ | exact rectV_eq _ _ _ _)) (hi := by (try simp only [rowOf_size, idC_size]); first | exact sizeID | exact sizeLabel) (hs := by first | (simp only [rowOf_size, idC_size]; done) | rfl) (h1 := by first | rfl | exact idC_one _ | exact rowOf_one _ _ (fun _ _ => rfl) | (simp only [List.size_toArray, List.length_cons, List.all_toArray', List.all_cons, List.all_nil, Value.oneCell', Bool.and_true, Bool.and_self]; done) | (simp [Value.oneCell']; done)) (h := ?_); clear hm; intro w1 hm; (try simp only [rowOf_set, k1, k2, k3, Value.cells, Act.eval, k7, k8, k9, kA, Option.getD_some] at hm)) | (refine wlSC (hm := hm) (hi := by first | exact sizeStr | exact sizeByteI | exact sizeInt | exact sizeU64) (ho := by first | decide | (simp only [rowOf_size, idC_size]; omega) | (simp; done)) (h := ?_); clear hm; intro w1 hm; (try simp only [rowOf_set, k1, k2, k3, Value.cells, Act.eval, k7, k8, k9, kA, Option.getD_some] at hm)) | (refine wlA (hz := by first | exact zeroID | exact zeroLabel) (hm := hm) (h := ?_); clear hm; intro b1 w1 hm; (try simp only [rowOf_set, k1, k2, k3, Value.cells, Act.eval, k7, k8, k9, kA, Option.getD_some] at hm)) | (refine wl_box (by rfl) rfl (by first | exact idV_cells _ | exact labV_cells _ _ | exact rectV_cells _ _ _ _ | rfl) hm ?_; clear hm; intro b1 w1 hm) | (refine wl_build (by rfl) (built_zeroL) rfl ?_; (try simp only [Act.put, k1, k2, k3]); (try simp only [← labV_eq, ← idV_eq])) | (refine wl_build (by rfl) (built_lab1 _) rfl ?_; (try simp only [Act.put, k1, k2, k3]); (try simp only [← labV_eq, ← idV_eq])) | (go_at_call 53; refine (h1 _ (hm.heap (by with_reducible first | exact at0 | exact at1 | exact at2 | exact at3 | exact at4))).mono ?_; rintro e w1 ⟨rfl, hx⟩; replace hm := hm.callAt (by with_reducible first | exact at0 | exact at1 | exact at2 | exact at3 | exact at4) hx; clear hx; simp only [k2, k3] at hm) | (with_reducible first | refine stBs ?_ | refine stMs ?_ | refine stAp ?_ | refine stCo ?_)); (try simp only [k4, k5, k6, Act.put, k1, k2, k3]))
  refine bodyPost_ret (results_row_tmp (h := rfl) _ _ _ _ _ _ _ rfl (hm.heap (i := 2) rfl) undLabel rfl (by first | exact sizeLabel | (simp only [rowOf_size, idC_size]; exact sizeLabel))) rfl ?_
  exact ⟨by rw [labV_eq l k] <;> rfl, hm.tail.tail.tail⟩
theorem readL_err (b : Nat) (s r : ByteArray) (l : Int) (k : Nat) (e : Int) (he : e ≠ 0) (h1 : Takes 53 #[.pointer (some ⟨b, 0, none⟩)] b s (.tuple #[labV l k, .int .i64 e]) r) :
    Takes 52 #[.pointer (some ⟨b, 0, none⟩), .func (.func 53) #[.pointer (some ⟨b, 0, none⟩)] #[]] b s (.tuple #[labV 0 0, .int .i64 e]) s := by
  intro w hw
  have he1 : (e != 0) = true := by simp [bne, he]
  rw [labV_eq 0 0]
  go_enter Try.func52, Try.ntmps52
  have hm := Mem.start hw
  go_wp2_with ((first | refine wpList_skip (by rfl) ?_ | (refine wlL (hm := hm) (hu := by first | exact undID | exact undLabel) (hi := by (try simp only [rowOf_size, idC_size]); first | exact sizeID | exact sizeLabel) (h := ?_); (try simp only [Act.put, k1, k2, k3]); (try simp only [← labV_eq, ← idV_eq])) | refine wlLC (hm := hm) (hu := by first | exact undStr | exact undByteI | exact undInt | exact undU64) (h := ?_) | (refine wlS (hm := hm) (hv := (by first | rfl | exact idV_eq _ | exact labV_eq _ _ | exact rectV_eq _ _ _ _)) (hi := by (try simp only [rowOf_size, idC_size]); first | exact sizeID | exact sizeLabel) (hs := by first | (simp only [rowOf_size, idC_size]; done) | rfl) (h1 := by first | rfl | exact idC_one _ | exact rowOf_one _ _ (fun _ _ => rfl) | (simp only [List.size_toArray, List.length_cons, List.all_toArray', List.all_cons, List.all_nil, Value.oneCell', Bool.and_true, Bool.and_self]; done) | (simp [Value.oneCell']; done)) (h := ?_); clear hm; intro w1 hm; (try simp only [rowOf_set, k1, k2, k3, Value.cells, Act.eval, k7, k8, k9, kA, Option.getD_some] at hm)) | (refine wlSC (hm := hm) (hi := by first | exact sizeStr | exact sizeByteI | exact sizeInt | exact sizeU64) (ho := by first | decide | (simp only [rowOf_size, idC_size]; omega) | (simp; done)) (h := ?_); clear hm; intro w1 hm; (try simp only [rowOf_set, k1, k2, k3, Value.cells, Act.eval, k7, k8, k9, kA, Option.getD_some] at hm)) | (refine wlA (hz := by first | exact zeroID | exact zeroLabel) (hm := hm) (h := ?_); clear hm; intro b1 w1 hm; (try simp only [rowOf_set, k1, k2, k3, Value.cells, Act.eval, k7, k8, k9, kA, Option.getD_some] at hm)) | (refine wl_box (by rfl) rfl (by first | exact idV_cells _ | exact labV_cells _ _ | exact rectV_cells _ _ _ _ | rfl) hm ?_; clear hm; intro b1 w1 hm) | (refine wl_build (by rfl) (built_zeroL) rfl ?_; (try simp only [Act.put, k1, k2, k3]); (try simp only [← labV_eq, ← idV_eq])) | (refine wl_build (by rfl) (built_lab1 _) rfl ?_; (try simp only [Act.put, k1, k2, k3]); (try simp only [← labV_eq, ← idV_eq])) | (go_at_call 53; refine (h1 _ (hm.heap (by with_reducible first | exact at0 | exact at1 | exact at2 | exact at3 | exact at4))).mono ?_; rintro e w1 ⟨rfl, hx⟩; replace hm := hm.callAt (by with_reducible first | exact at0 | exact at1 | exact at2 | exact at3 | exact at4) hx; clear hx; simp only [k2, k3] at hm) | (with_reducible first | refine stBs ?_ | refine stMs ?_ | refine stAp ?_ | refine stCo ?_)); (try simp only [k4, k5, k6, Act.put, k1, k2, k3]))
  refine bodyPost_ret (results_row_tmp (h := rfl) _ _ _ _ _ _ _ rfl (hm.heap (i := 2) rfl) undLabel rfl (by first | exact sizeLabel | (simp only [rowOf_size, idC_size]; exact sizeLabel))) rfl ?_
  exact ⟨rfl, hm.tail.tail.tail⟩
theorem Label_go (b : Nat) (s r : ByteArray) (l : Int) (k : Nat) (e : Int) (h1 : Takes 52 #[.pointer (some ⟨b, 0, none⟩), .func (.func 53) #[.pointer (some ⟨b, 0, none⟩)] #[]] b s (.tuple #[labV l k, .int .i64 e]) r) :
    Takes 26 #[.pointer (some ⟨b, 0, none⟩)] b s (.tuple #[labV l k, .int .i64 e]) r := by
  intro w hw
  go_enter Try.func26, Try.ntmps26
  have hm := Mem.start hw
  go_wp2_with ((first | refine wpList_skip (by rfl) ?_ | (refine wlL (hm := hm) (hu := by first | exact undID | exact undLabel) (hi := by (try simp only [rowOf_size, idC_size]); first | exact sizeID | exact sizeLabel) (h := ?_); (try simp only [Act.put, k1, k2, k3]); (try simp only [← labV_eq, ← idV_eq])) | refine wlLC (hm := hm) (hu := by first | exact undStr | exact undByteI | exact undInt | exact undU64) (h := ?_) | (refine wlS (hm := hm) (hv := (by first | rfl | exact idV_eq _ | exact labV_eq _ _ | exact rectV_eq _ _ _ _)) (hi := by (try simp only [rowOf_size, idC_size]); first | exact sizeID | exact sizeLabel) (hs := by first | (simp only [rowOf_size, idC_size]; done) | rfl) (h1 := by first | rfl | exact idC_one _ | exact rowOf_one _ _ (fun _ _ => rfl) | (simp only [List.size_toArray, List.length_cons, List.all_toArray', List.all_cons, List.all_nil, Value.oneCell', Bool.and_true, Bool.and_self]; done) | (simp [Value.oneCell']; done)) (h := ?_); clear hm; intro w1 hm; (try simp only [rowOf_set, k1, k2, k3, Value.cells, Act.eval, k7, k8, k9, kA, Option.getD_some] at hm)) | (refine wlSC (hm := hm) (hi := by first | exact sizeStr | exact sizeByteI | exact sizeInt | exact sizeU64) (ho := by first | decide | (simp only [rowOf_size, idC_size]; omega) | (simp; done)) (h := ?_); clear hm; intro w1 hm; (try simp only [rowOf_set, k1, k2, k3, Value.cells, Act.eval, k7, k8, k9, kA, Option.getD_some] at hm)) | (refine wlA (hz := by first | exact zeroID | exact zeroLabel) (hm := hm) (h := ?_); clear hm; intro b1 w1 hm; (try simp only [rowOf_set, k1, k2, k3, Value.cells, Act.eval, k7, k8, k9, kA, Option.getD_some] at hm)) | (refine wl_box (by rfl) rfl (by first | exact idV_cells _ | exact labV_cells _ _ | exact rectV_cells _ _ _ _ | rfl) hm ?_; clear hm; intro b1 w1 hm) | (refine wl_build (by rfl) (built_zeroL) rfl ?_; (try simp only [Act.put, k1, k2, k3]); (try simp only [← labV_eq, ← idV_eq])) | (refine wl_build (by rfl) (built_lab1 _) rfl ?_; (try simp only [Act.put, k1, k2, k3]); (try simp only [← labV_eq, ← idV_eq])) | (go_at_call 52; refine (h1 _ (hm.heap (by with_reducible first | exact at0 | exact at1 | exact at2 | exact at3 | exact at4))).mono ?_; rintro e w1 ⟨rfl, hx⟩; replace hm := hm.callAt (by with_reducible first | exact at0 | exact at1 | exact at2 | exact at3 | exact at4) hx; clear hx; simp only [k2, k3] at hm) | (with_reducible first | refine stBs ?_ | refine stMs ?_ | refine stAp ?_ | refine stCo ?_)); (try simp only [k4, k5, k6, Act.put, k1, k2, k3]))
  refine bodyPost_ret (results_row_tmp (h := rfl) _ _ _ _ _ _ _ rfl (hm.heap (i := 0) rfl) undLabel rfl (by first | exact sizeLabel | (simp only [rowOf_size, idC_size]; exact sizeLabel))) rfl ?_
  exact ⟨by rw [labV_eq l k] <;> rfl, hm.tail⟩
theorem Label_nil : Says 26 #[.pointer none] (.tuple #[labV 0 0, .int .i64 6]) := by
  intro w
  rw [labV_eq 0 0]
  have h1 := readL_nil (.func (.func 53) #[.pointer none] #[])
  rw [labV_eq 0 0] at h1
  go_enter Try.func26, Try.ntmps26
  have hm := Mem.refl w []
  go_wp2_with ((first | refine wpList_skip (by rfl) ?_ | (refine wlL (hm := hm) (hu := by first | exact undID | exact undLabel) (hi := by (try simp only [rowOf_size, idC_size]); first | exact sizeID | exact sizeLabel) (h := ?_); (try simp only [Act.put, k1, k2, k3]); (try simp only [← labV_eq, ← idV_eq])) | refine wlLC (hm := hm) (hu := by first | exact undStr | exact undByteI | exact undInt | exact undU64) (h := ?_) | (refine wlS (hm := hm) (hv := (by first | rfl | exact idV_eq _ | exact labV_eq _ _ | exact rectV_eq _ _ _ _)) (hi := by (try simp only [rowOf_size, idC_size]); first | exact sizeID | exact sizeLabel) (hs := by first | (simp only [rowOf_size, idC_size]; done) | rfl) (h1 := by first | rfl | exact idC_one _ | exact rowOf_one _ _ (fun _ _ => rfl) | (simp only [List.size_toArray, List.length_cons, List.all_toArray', List.all_cons, List.all_nil, Value.oneCell', Bool.and_true, Bool.and_self]; done) | (simp [Value.oneCell']; done)) (h := ?_); clear hm; intro w1 hm; (try simp only [rowOf_set, k1, k2, k3, Value.cells, Act.eval, k7, k8, k9, kA, Option.getD_some] at hm)) | (refine wlSC (hm := hm) (hi := by first | exact sizeStr | exact sizeByteI | exact sizeInt | exact sizeU64) (ho := by first | decide | (simp only [rowOf_size, idC_size]; omega) | (simp; done)) (h := ?_); clear hm; intro w1 hm; (try simp only [rowOf_set, k1, k2, k3, Value.cells, Act.eval, k7, k8, k9, kA, Option.getD_some] at hm)) | (refine wlA (hz := by first | exact zeroID | exact zeroLabel) (hm := hm) (h := ?_); clear hm; intro b1 w1 hm; (try simp only [rowOf_set, k1, k2, k3, Value.cells, Act.eval, k7, k8, k9, kA, Option.getD_some] at hm)) | (refine wl_box (by rfl) rfl (by first | exact idV_cells _ | exact labV_cells _ _ | exact rectV_cells _ _ _ _ | rfl) hm ?_; clear hm; intro b1 w1 hm) | (refine wl_build (by rfl) (built_zeroL) rfl ?_; (try simp only [Act.put, k1, k2, k3]); (try simp only [← labV_eq, ← idV_eq])) | (refine wl_build (by rfl) (built_lab1 _) rfl ?_; (try simp only [Act.put, k1, k2, k3]); (try simp only [← labV_eq, ← idV_eq])) | (go_at_call 52; refine (h1 _).mono ?_; rintro e w1 ⟨rfl, hx⟩; replace hm := hm.call hx; clear hx) | (go_at_call 48; refine (h1 _).mono ?_; rintro e w1 ⟨rfl, hx⟩; replace hm := hm.call hx; clear hx) | (with_reducible first | refine stBs ?_ | refine stMs ?_ | refine stAp ?_ | refine stCo ?_)); (try simp only [k4, k5, k6, Act.put, k1, k2, k3]))
  refine bodyPost_ret (results_row_tmp (h := rfl) _ _ _ _ _ _ _ rfl (hm.heap (i := 0) rfl) undLabel rfl (by first | exact sizeLabel | (simp only [rowOf_size, idC_size]; exact sizeLabel))) rfl ?_
  exact ⟨rfl, hm.ext⟩
theorem Number_nil : Says 24 #[.pointer none] (.tuple #[.int .u64 0, .int .i64 6]) := by
  intro w
  have h1 := readU_nil (.func (.func 49) #[.pointer none] #[])
  go_enter Try.func24, Try.ntmps24
  have hm := Mem.refl w []
  go_wp2_with ((first | refine wpList_skip (by rfl) ?_ | (refine wlL (hm := hm) (hu := by first | exact undID | exact undLabel) (hi := by (try simp only [rowOf_size, idC_size]); first | exact sizeID | exact sizeLabel) (h := ?_); (try simp only [Act.put, k1, k2, k3]); (try simp only [← labV_eq, ← idV_eq])) | refine wlLC (hm := hm) (hu := by first | exact undStr | exact undByteI | exact undInt | exact undU64) (h := ?_) | (refine wlS (hm := hm) (hv := (by first | rfl | exact idV_eq _ | exact labV_eq _ _ | exact rectV_eq _ _ _ _)) (hi := by (try simp only [rowOf_size, idC_size]); first | exact sizeID | exact sizeLabel) (hs := by first | (simp only [rowOf_size, idC_size]; done) | rfl) (h1 := by first | rfl | exact idC_one _ | exact rowOf_one _ _ (fun _ _ => rfl) | (simp only [List.size_toArray, List.length_cons, List.all_toArray', List.all_cons, List.all_nil, Value.oneCell', Bool.and_true, Bool.and_self]; done) | (simp [Value.oneCell']; done)) (h := ?_); clear hm; intro w1 hm; (try simp only [rowOf_set, k1, k2, k3, Value.cells, Act.eval, k7, k8, k9, kA, Option.getD_some] at hm)) | (refine wlSC (hm := hm) (hi := by first | exact sizeStr | exact sizeByteI | exact sizeInt | exact sizeU64) (ho := by first | decide | (simp only [rowOf_size, idC_size]; omega) | (simp; done)) (h := ?_); clear hm; intro w1 hm; (try simp only [rowOf_set, k1, k2, k3, Value.cells, Act.eval, k7, k8, k9, kA, Option.getD_some] at hm)) | (refine wlA (hz := by first | exact zeroID | exact zeroLabel) (hm := hm) (h := ?_); clear hm; intro b1 w1 hm; (try simp only [rowOf_set, k1, k2, k3, Value.cells, Act.eval, k7, k8, k9, kA, Option.getD_some] at hm)) | (refine wl_box (by rfl) rfl (by first | exact idV_cells _ | exact labV_cells _ _ | exact rectV_cells _ _ _ _ | rfl) hm ?_; clear hm; intro b1 w1 hm) | (refine wl_build (by rfl) (built_zeroL) rfl ?_; (try simp only [Act.put, k1, k2, k3]); (try simp only [← labV_eq, ← idV_eq])) | (refine wl_build (by rfl) (built_lab1 _) rfl ?_; (try simp only [Act.put, k1, k2, k3]); (try simp only [← labV_eq, ← idV_eq])) | (go_at_call 52; refine (h1 _).mono ?_; rintro e w1 ⟨rfl, hx⟩; replace hm := hm.call hx; clear hx) | (go_at_call 48; refine (h1 _).mono ?_; rintro e w1 ⟨rfl, hx⟩; replace hm := hm.call hx; clear hx) | (with_reducible first | refine stBs ?_ | refine stMs ?_ | refine stAp ?_ | refine stCo ?_)); (try simp only [k4, k5, k6, Act.put, k1, k2, k3]))
  go_ret2
  exact ⟨rfl, hm.ext⟩
/-- What Label reads: its error, or 0. -/
def labN (f : Nat → Nat) : Nat := (f 0 + 7) / 8
def labE (m : Nat) (f : Nat → Nat) : Nat := if m = 0 then 4 else if 64 < f 0 then 3 else if m - 1 < labN f then 4 else if isL (f 0 : Int) (labAcc (dropF 1 f) (labN f)) = true then 0 else 3
theorem label_any (b m : Nat) (f : Nat → Nat) (hf : ∀ j, f j < 256) : ∃ (l : Int) (k : Nat) (r : ByteArray), Takes 53 #[.pointer (some ⟨b, 0, none⟩)] b (bytesB m f) (.tuple #[labV l k, .int .i64 ((labE m f : Nat) : Int)]) r ∧
    (labE m f = 0 → l = (f 0 : Int) ∧ k = labAcc (dropF 1 f) (labN f) ∧ r = bytesB (m - 1 - labN f) (dropF (1 + labN f) f)) := by
  unfold labE
  by_cases h0 : m = 0
  · rw [if_pos h0]
    exact ⟨_, _, _, label_err1 b _ _ _ (take_more b _ m 1 (bytesB_size m f) (by omega)), fun h => by omega⟩
  · rw [if_neg h0]
    have k1 := takeB_ok b m 1 f (by omega)
    have hI0 : ∀ w, (Instr.index 9 (.string (bytesB 1 f)) (.int .i64 0)).run Try.prog w = .ok (.int .u8 ((f 0 : Nat) : Int)) w := run_indexS (k := 0) (bytesB_get (show 0 < 1 by omega)) (hf 0)
    by_cases h8 : 64 < f 0
    · rw [if_pos h8]
      exact ⟨_, _, _, label_form1 b _ _ _ (f 0) h8 (hf 0) hI0 k1, fun h => by omega⟩
    · rw [if_neg h8]
      by_cases hm : m - 1 < labN f
      · rw [if_pos hm]
        exact ⟨_, _, _, label_err2 b _ _ _ _ _ (f 0) (labN f) h8 rfl hI0 k1 (take_more b _ (m - 1) (labN f) (bytesB_size _ _) hm), fun h => by omega⟩
      · rw [if_neg hm]
        have k2 := takeB_ok b (m - 1) (labN f) (dropF 1 f) (by omega)
        have hcl : labN f ≤ 8 := by unfold labN; omega
        have hac := labAcc_ok (dropF 1 f) (fun k => hf _) (labN f) hcl
        have hg := label_go b _ _ _ _ _ (f 0) (labN f) (dropF 1 f) (fun k => hf _) h8 rfl (bytesB_size _ _) _ hI0 (fun k hk => run_indexS (bytesB_get hk) (hf _)) (is_c (f 0 : Int) _ hac.2) k1 k2
        have e2 : bytesB (m - 1 - labN f) (dropF (labN f) (dropF 1 f)) = bytesB (m - 1 - labN f) (dropF (1 + labN f) f) := bytesB_congr fun j _ => by unfold dropF; rw [Nat.add_assoc]
        rw [e2] at hg
        by_cases hq : isL (f 0 : Int) (labAcc (dropF 1 f) (labN f)) = true
        · rw [if_pos hq]
          rw [if_pos hq] at hg
          exact ⟨_, _, _, hg, fun _ => ⟨rfl, rfl, rfl⟩⟩
        · rw [if_neg hq]
          rw [if_neg hq] at hg
          exact ⟨_, _, _, hg, fun h => by omega⟩
theorem Label_ok (b m : Nat) (f : Nat → Nat) (hf : ∀ j, f j < 256) (h : labE m f = 0) : Takes 26 #[.pointer (some ⟨b, 0, none⟩)] b (bytesB m f) (.tuple #[labV (f 0 : Int) (labAcc (dropF 1 f) (labN f)), .int .i64 0]) (bytesB (m - 1 - labN f) (dropF (1 + labN f) f)) := by
  obtain ⟨l, k, r, h1, h2⟩ := label_any b m f hf
  obtain ⟨rfl, rfl, rfl⟩ := h2 h
  rw [h] at h1
  exact Label_go b _ _ _ _ _ (readL_ok b _ _ _ _ h1)
theorem Label_err (b m : Nat) (f : Nat → Nat) (hf : ∀ j, f j < 256) (h : labE m f ≠ 0) : Takes 26 #[.pointer (some ⟨b, 0, none⟩)] b (bytesB m f) (.tuple #[labV 0 0, .int .i64 ((labE m f : Nat) : Int)]) (bytesB m f) := by
  obtain ⟨l, k, r, h1, _⟩ := label_any b m f hf
  exact Label_go b _ _ _ _ _ (readL_err b _ _ _ _ _ (by omega) h1)
end Go.Proofs.Ytijkmbebfodhdaa

/- (WirP)
  Wire: what is put is read (plain).
-/
namespace Go.Proofs.Ytijkmbebfodhdaa
open Go.RowKit
set_option linter.unusedSimpArgs false
set_option linter.unusedVariables false

def catF (n : Nat) (f g : Nat → Nat) (j : Nat) : Nat := if j < n then f j else g (j - n)
theorem catF_eq (n m : Nat) (f g : Nat → Nat) : bytesB n f ++ bytesB m g = bytesB (n + m) (catF n f g) := bytesB_append ..
theorem drop_cat (n : Nat) (f g : Nat → Nat) : dropF n (catF n f g) = g := by
  funext j
  unfold dropF catF
  rw [if_neg (by omega), Nat.add_sub_cancel_left]
theorem catF_lt {n : Nat} {f g : Nat → Nat} (hf : ∀ j, f j < 256) (hg : ∀ j, g j < 256) (j : Nat) : catF n f g j < 256 := by
  unfold catF; split
  · exact hf j
  · exact hg _
def byteOf (s : ByteArray) (i : Nat) : Nat := ((s.data.toList[i]?).getD 0).toNat
theorem byteOf_lt (s : ByteArray) (i : Nat) : byteOf s i < 256 := UInt8.toNat_lt _
theorem byteOf_eq (s : ByteArray) : bytesB s.size (byteOf s) = s := (bytes_of s).symm
theorem num_digits (v : Nat) (F : Nat → Nat) (hF : ∀ j, j < nB v → F j = v / 256 ^ (nB v - 1 - j) % 256) : ∀ k, k ≤ nB v → valB F k = v / 256 ^ (nB v - k)
  | 0, _ => by rw [valB, Nat.sub_zero, Nat.div_eq_of_lt (nB_lt v)]
  | k + 1, h => by
    rw [valB, num_digits v F hF k (by omega), hF k (by omega), show nB v - k = nB v - (k + 1) + 1 from by omega, Nat.pow_succ, ← Nat.div_div_eq_div_mul, show nB v - 1 - k = nB v - (k + 1) from by omega]
    generalize v / 256 ^ (nB v - (k + 1)) = q
    omega
theorem num_read (m v : Nat) (f : Nat → Nat) (hv : v < 2 ^ 64) (hm : nB v + 1 ≤ m) (hf : ∀ j, j ≤ nB v → f j = numF v j) : numE m f = 0 ∧ valB (dropF 1 f) (f 0) = v ∧ f 0 = nB v := by
  have h0 : f 0 = nB v := by rw [hf 0 (by omega)]; unfold numF; rfl
  have h8 := nB_8 v hv
  refine ⟨?_, ?_, h0⟩
  · unfold numE
    rw [if_neg (by omega), h0, if_neg (by omega), if_neg (by omega), if_neg]
    rintro ⟨hp, h1⟩
    rw [hf 1 (by omega)] at h1
    unfold numF at h1
    rw [if_neg (by omega)] at h1
    have hv0 : 0 < v := by
      rcases Nat.eq_zero_or_pos v with h | h
      · rw [h] at hp; exact absurd hp (by decide)
      · exact h
    have a1 := nB_le v hv0
    have a2 := nB_lt v
    have hpw : 0 < 256 ^ (nB v - 1) := Nat.pow_pos (by omega)
    have a3 : 1 ≤ v / 256 ^ (nB v - 1) := (Nat.le_div_iff_mul_le hpw).2 (by omega)
    have a4 : v / 256 ^ (nB v - 1) < 256 := by
      refine (Nat.div_lt_iff_lt_mul hpw).2 ?_
      rw [show 256 * 256 ^ (nB v - 1) = 256 ^ nB v from by rw [Nat.mul_comm, ← Nat.pow_succ, show (nB v - 1).succ = nB v from by omega]]
      exact a2
    omega
  · rw [h0, num_digits v (dropF 1 f) (fun j hj => by
      unfold dropF
      rw [hf (1 + j) (by omega)]
      unfold numF
      rw [if_neg (by omega), show nB v - (1 + j) = nB v - 1 - j from by omega]) (nB v) (Nat.le_refl _), Nat.sub_self, Nat.pow_zero, Nat.div_one]
/-- A number's bytes. -/
def numB (v : Nat) : ByteArray := bytesB (nB v + 1) (numF v)
theorem Number_put (b v : Nat) (X : ByteArray) (hv : v < 2 ^ 64) : Takes 24 #[.pointer (some ⟨b, 0, none⟩)] b (numB v ++ X) (.tuple #[.int .u64 (v : Int), .int .i64 0]) X := by
  have hf : ∀ j, catF (nB v + 1) (numF v) (byteOf X) j < 256 := catF_lt (fun j => numF_lt v j hv) (byteOf_lt X)
  obtain ⟨h1, h2, h3⟩ := num_read (nB v + 1 + X.size) v (catF (nB v + 1) (numF v) (byteOf X)) hv (by omega) (fun j hj => by unfold catF; rw [if_pos (by omega)])
  have h := Number_ok b (nB v + 1 + X.size) _ hf h1
  rw [h2, h3, show 1 + nB v = nB v + 1 from Nat.add_comm .., drop_cat, show nB v + 1 + X.size - 1 - nB v = X.size from by omega, ← catF_eq, byteOf_eq] at h
  exact h
theorem Text_put (b : Nat) (s X : ByteArray) (hs : s.size ≤ 4096) : Takes 25 #[.pointer (some ⟨b, 0, none⟩)] b (numB s.size ++ (s ++ X)) (.tuple #[.string s, .int .i64 0]) X := by
  obtain ⟨k, hk⟩ : ∃ k, s.size = k := ⟨_, rfl⟩
  have hv : k < 2 ^ 64 := by omega
  have hf : ∀ j, catF (nB k + 1) (numF k) (catF k (byteOf s) (byteOf X)) j < 256 := catF_lt (fun j => numF_lt k j hv) (catF_lt (byteOf_lt s) (byteOf_lt X))
  obtain ⟨h1, h2, h3⟩ := num_read (nB k + 1 + (k + X.size)) k (catF (nB k + 1) (numF k) (catF k (byteOf s) (byteOf X))) hv (by omega) (fun j hj => by unfold catF; rw [if_pos (by omega)])
  have ht : txtN (catF (nB k + 1) (numF k) (catF k (byteOf s) (byteOf X))) = k := h2
  have he : txtE (nB k + 1 + (k + X.size)) (catF (nB k + 1) (numF k) (catF k (byteOf s) (byteOf X))) = 0 := by
    unfold txtE
    rw [if_neg (by omega), ht, if_neg (by omega), h3, if_neg (by omega)]
  have h := Text_ok b _ _ hf he
  have e1 : bytesB k (dropF (nB k + 1) (catF (nB k + 1) (numF k) (catF k (byteOf s) (byteOf X)))) = s := by
    rw [drop_cat, ← hk, ← byteOf_eq s]
    rw [byteOf_eq s]
    conv => rhs; rw [← byteOf_eq s]
    exact bytesB_congr fun j hj => by unfold catF; rw [if_pos hj]
  have e2 : dropF (nB k + 1 + k) (catF (nB k + 1) (numF k) (catF k (byteOf s) (byteOf X))) = byteOf X := by
    funext j
    unfold dropF catF
    rw [if_neg (by omega), if_neg (by omega)]
    congr 1
    omega
  rw [ht, h3, show 1 + nB k = nB k + 1 from Nat.add_comm .., e1, e2, show nB k + 1 + (k + X.size) - 1 - nB k - k = X.size from by omega, ← catF_eq, ← catF_eq, byteOf_eq] at h
  rw [← hk, byteOf_eq] at h
  exact h
theorem Place_put (b a : Nat) (X : ByteArray) : Takes 30 #[.pointer (some ⟨b, 0, none⟩)] b (bytesB 20 (dig a) ++ X) (.tuple #[idV a, .int .i64 0]) X := by
  have h := Place_ok b (20 + X.size) a (catF 20 (dig a) (byteOf X)) (by omega) (fun j hj => by unfold catF; rw [if_pos hj])
  rw [drop_cat, show 20 + X.size - 20 = X.size from by omega, ← catF_eq, byteOf_eq] at h
  exact h
/-- A label's bytes. -/
def labB (n b : Nat) : ByteArray := bytesB ((n + 7) / 8 + 1) (labF n b)
theorem lab_digits (n b : Nat) (hb : b < 2 ^ 64) (F : Nat → Nat) (c : Nat) (hc : c ≤ 8) (hF : ∀ j, j < c → F j = b / 2 ^ (64 - 8 * (j + 1)) % 256) : ∀ k, k ≤ c → labAcc F k = b / 2 ^ (64 - 8 * k) * 2 ^ (64 - 8 * k)
  | 0, _ => by rw [labAcc, show 64 - 8 * 0 = 64 from rfl, Nat.div_eq_of_lt hb, Nat.zero_mul]
  | k + 1, h => by
    rw [labAcc, lab_digits n b hb F c hc hF k (by omega), hF k (by omega), show 64 - 8 * (k + 1) = 56 - 8 * k from by omega, show 64 - 8 * k = 56 - 8 * k + 8 from by omega, Nat.pow_add, ← Nat.div_div_eq_div_mul]
    generalize b / 2 ^ (56 - 8 * k) = q
    generalize 2 ^ (56 - 8 * k) = p
    rw [Nat.mul_comm p (2 ^ 8), ← Nat.mul_assoc, ← Nat.add_mul]
    congr 1
    omega
theorem Label_put (b n k : Nat) (X : ByteArray) (hn : n ≤ 64) (hk : k < 2 ^ 64) (hl : isL (n : Int) k = true) : Takes 26 #[.pointer (some ⟨b, 0, none⟩)] b (labB n k ++ X) (.tuple #[labV (n : Int) k, .int .i64 0]) X := by
  obtain ⟨c, hc⟩ : ∃ c, (n + 7) / 8 = c := ⟨_, rfl⟩
  have hlt : ∀ j, labF n k j < 256 := fun j => by unfold labF; split <;> omega
  have hf : ∀ j, catF (c + 1) (labF n k) (byteOf X) j < 256 := catF_lt hlt (byteOf_lt X)
  have h0 : catF (c + 1) (labF n k) (byteOf X) 0 = n := by unfold catF labF; rw [if_pos (by omega), if_pos rfl]
  have hN : labN (catF (c + 1) (labF n k) (byteOf X)) = c := by unfold labN; rw [h0, hc]
  have hacc : labAcc (dropF 1 (catF (c + 1) (labF n k) (byteOf X))) c = k := by
    rw [lab_digits n k hk _ c (by omega) (fun j hj => by
      unfold dropF catF labF
      rw [if_pos (by omega), if_neg (by omega), show 1 + j = j + 1 from Nat.add_comm ..]) c (Nat.le_refl _)]
    have hm := isL_mod n k hl
    refine Nat.div_mul_cancel (Nat.dvd_of_mod_eq_zero ?_)
    have hd : 2 ^ (64 - 8 * c) ∣ 2 ^ (64 - n) := Nat.pow_dvd_pow 2 (by omega)
    exact Nat.mod_eq_zero_of_dvd (Nat.dvd_trans hd (Nat.dvd_of_mod_eq_zero hm))
  have he : labE (c + 1 + X.size) (catF (c + 1) (labF n k) (byteOf X)) = 0 := by
    unfold labE
    rw [if_neg (by omega), h0, if_neg (by omega), hN, if_neg (by omega), hacc, if_pos hl]
  have h := Label_ok b _ _ hf he
  rw [hN, h0, hacc, show 1 + c = c + 1 from Nat.add_comm .., drop_cat, show c + 1 + X.size - 1 - c = X.size from by omega, ← catF_eq, byteOf_eq] at h
  unfold labB
  rw [hc]
  exact h
end Go.Proofs.Ytijkmbebfodhdaa

/- (EqI)
  Equality of two places.
-/
namespace Go.Proofs.Ytijkmbebfodhdaa
open Go.RowKit
set_option linter.unusedSimpArgs false
set_option linter.unusedVariables false
set_option maxHeartbeats 400000
set_option maxRecDepth 20000

def eqId (a b : Nat) : Bool := (List.range 20).all fun i => ((dig a i : Nat) : Int) == ((dig b i : Nat) : Int)
theorem eqId_refl (a : Nat) : eqId a a = true := by unfold eqId; simp
theorem run_equalID (a b : Nat) (w : World) : (Op.equalIn 10000 24 (.agg (idC a)) (.agg (idC b))).run Try.prog w = .ok (eqId a b) w := by
  rw [run_equalInts w 9998 undID undByteI sizeByteI (idC a) (idC b) (fun i => ((dig a i : Nat) : Int)) (fun i => ((dig b i : Nat) : Int)) (fun i hi => ⟨rowOf_get _ _ i hi, rowOf_get _ _ i hi⟩)]
  rfl
@[go_sem] theorem run_eqlID (a b : Nat) (w : World) : (binOp .eql 24 (idV a) (idV b)).run Try.prog w = .ok (.bool (eqId a b)) w := by
  rw [idV_eq, idV_eq, run_eql_struct, run_equalID]; rfl
@[go_sem] theorem run_guardID (op : BinOp) (x y : Operand) (a b : Nat) (w : World) : (eqGuard op 24 x y (idV a) (idV b)).run Try.prog w = .ok () w := by
  rw [idV_eq, idV_eq]
  exact run_eqGuard_agg w op _ x y _ _ (by kernel_rfl)
@[go_sem high] theorem run_eqlID_self (a : Nat) (w : World) : (binOp .eql 24 (idV a) (idV a)).run Try.prog w = .ok (.bool true) w := by
  rw [run_eqlID, eqId_refl]
theorem exec_eqlID {dst : Option Nat} {T ty : TypeId} {pos : String} {aft : Array Edge} {gd : Option (Nat × Bool)} (ρ : Operand → Value) (N : Nat) (x y : Operand) (hx : ρ x = idV N) (hy : ρ y = idV N) (w : World) : (execOp ρ ⟨dst, .binOp .eql 24 x y T, ty, pos, aft, gd⟩).run Try.prog w = .ok (.value (.bool true)) w := by
  have heq := run_eqlID_self N w
  have hg := run_guardID .eql x y N N w
  unfold execOp
  simp only [hx, hy]
  go_simp
end Go.Proofs.Ytijkmbebfodhdaa

/- (LetA)
  Letters: peers and letters as rows of cells; kinds' parts; addresses.
-/
namespace Go.Proofs.Ytijkmbebfodhdaa
open Go.RowKit
set_option linter.unusedSimpArgs false
set_option linter.unusedVariables false
set_option maxHeartbeats 1000000
set_option maxRecDepth 20000

def peerF (a : Int) (p : Nat) (j : Nat) : Value := if j = 0 then .int .i64 a else .int .u8 ((dig p (j - 1) : Nat) : Int)
@[irreducible] def peerC (a : Int) (p : Nat) : Array Value := rowOf 21 (peerF a p)
theorem peerC_eq (a : Int) (p : Nat) : peerC a p = rowOf 21 (peerF a p) := by unfold peerC; rfl
theorem peerC_size (a : Int) (p : Nat) : (peerC a p).size = 21 := by rw [peerC_eq, rowOf_size]
@[irreducible] def peerV (a : Int) (p : Nat) : Value := .agg (peerC a p)
theorem peerV_eq (a : Int) (p : Nat) : peerV a p = .agg (peerC a p) := by unfold peerV; rfl
theorem peerV_cells (a : Int) (p : Nat) : (peerV a p).cells = peerC a p := by rw [peerV_eq]; rfl
theorem peer0 (a : Int) (p : Nat) : (peerC a p)[0]? = some (.int .i64 a) := by rw [peerC_eq, rowOf_get _ _ 0 (by decide)]; rfl
theorem peer_id (a : Int) (p : Nat) (j : Nat) (v : Value) (h : (idC p).toList[j]? = some v) : (peerC a p)[1 + j]? = some v := by
  have hj : j < 20 := by
    have := (List.getElem?_eq_some_iff.1 h).1
    rw [Array.length_toList, idC_size] at this
    exact this
  rw [Array.getElem?_toList, idC, rowOf_get _ _ j hj] at h
  rw [peerC_eq, rowOf_get _ _ _ (by omega), ← h]
  unfold peerF
  rw [if_neg (by omega), Nat.add_sub_cancel_left]
theorem peerC_one (a : Int) (p : Nat) : (peerC a p).all (·.oneCell') = true := by
  rw [peerC_eq]
  exact rowOf_one _ _ fun j _ => by unfold peerF; split <;> rfl
noncomputable def peerFields : Array Field := match Try.prog.underlying 60 with | some (.struct fs) => fs | _ => #[]
theorem undPeer : Try.prog.underlying 60 = some (.struct peerFields) := by kernel_rfl
noncomputable def letFields : Array Field := match Try.prog.underlying 63 with | some (.struct fs) => fs | _ => #[]
theorem undLetter : Try.prog.underlying 63 = some (.struct letFields) := by kernel_rfl
theorem sizePeer : (Try.prog.info? 60).map (·.size) = some 21 := by kernel_rfl
/-- No peer: the address -1, and the place 0. -/
theorem built_none : Try.prog.built 60 [(0, .int .i64 (-1))] = some (peerC (-1) 0) := by
  rw [peerC_eq]
  unfold rowOf
  kernel_rfl
theorem zeroPeer : (Try.prog.info? 60).bind (·.zero) = some (.agg (peerC 0 0)) := by
  rw [peerC_eq]
  unfold rowOf
  kernel_rfl

/-- A letter. -/
structure Let where
  (kind fa : Int) (fi req id : Nat) (ac : Option Addr) (an acap : Nat) (done : Bool) (pa : Int) (pi : Nat) (pc : Option Addr) (pn pcap : Nat)
def letF (l : Let) (j : Nat) : Value :=
  if j = 0 then .int .i64 l.kind else if j < 22 then peerF l.fa l.fi (j - 1) else if j = 22 then .int .u64 (l.req : Int) else if j < 43 then .int .u8 ((dig l.id (j - 23) : Nat) : Int)
  else if j = 43 then .slice l.ac l.an l.acap else if j = 44 then .bool l.done else if j < 66 then peerF l.pa l.pi (j - 45) else .slice l.pc l.pn l.pcap
@[irreducible] def letC (l : Let) : Array Value := rowOf 67 (letF l)
theorem letC_eq (l : Let) : letC l = rowOf 67 (letF l) := by unfold letC; rfl
theorem letC_size (l : Let) : (letC l).size = 67 := by rw [letC_eq, rowOf_size]
@[irreducible] def letV (l : Let) : Value := .agg (letC l)
theorem letV_eq (l : Let) : letV l = .agg (letC l) := by unfold letV; rfl
theorem letV_cells (l : Let) : (letV l).cells = letC l := by rw [letV_eq]; rfl
theorem let0 (l : Let) : (letC l)[0]? = some (.int .i64 l.kind) := by rw [letC_eq, rowOf_get _ _ 0 (by decide)]; rfl
theorem let1 (l : Let) : (letC l)[1]? = some (.int .i64 l.fa) := by rw [letC_eq, rowOf_get _ _ 1 (by decide)]; rfl
theorem let22 (l : Let) : (letC l)[22]? = some (.int .u64 (l.req : Int)) := by rw [letC_eq, rowOf_get _ _ 22 (by decide)]; rfl
theorem let43 (l : Let) : (letC l)[43]? = some (.slice l.ac l.an l.acap) := by rw [letC_eq, rowOf_get _ _ 43 (by decide)]; rfl
theorem let44 (l : Let) : (letC l)[44]? = some (.bool l.done) := by rw [letC_eq, rowOf_get _ _ 44 (by decide)]; rfl
theorem let45 (l : Let) : (letC l)[45]? = some (.int .i64 l.pa) := by rw [letC_eq, rowOf_get _ _ 45 (by decide)]; rfl
theorem let66 (l : Let) : (letC l)[66]? = some (.slice l.pc l.pn l.pcap) := by rw [letC_eq, rowOf_get _ _ 66 (by decide)]; rfl
theorem let_id (l : Let) (j : Nat) (v : Value) (h : (idC l.id).toList[j]? = some v) : (letC l)[23 + j]? = some v := by
  have hj : j < 20 := by
    have := (List.getElem?_eq_some_iff.1 h).1
    rw [Array.length_toList, idC_size] at this
    exact this
  rw [Array.getElem?_toList, idC, rowOf_get _ _ j hj] at h
  rw [letC_eq, rowOf_get _ _ _ (by omega), ← h]
  unfold letF
  rw [if_neg (by omega), if_neg (by omega), if_neg (by omega), if_pos (by omega), Nat.add_sub_cancel_left]
theorem let_from (l : Let) (j : Nat) (v : Value) (h : (peerC l.fa l.fi).toList[j]? = some v) : (letC l)[1 + j]? = some v := by
  have hj : j < 21 := by
    have := (List.getElem?_eq_some_iff.1 h).1
    rw [Array.length_toList, peerC_size] at this
    exact this
  rw [Array.getElem?_toList, peerC_eq, rowOf_get _ _ j hj] at h
  rw [letC_eq, rowOf_get _ _ _ (by omega), ← h]
  unfold letF
  rw [if_neg (by omega), if_pos (by omega), Nat.add_sub_cancel_left]
theorem let_peer (l : Let) (j : Nat) (v : Value) (h : (peerC l.pa l.pi).toList[j]? = some v) : (letC l)[45 + j]? = some v := by
  have hj : j < 21 := by
    have := (List.getElem?_eq_some_iff.1 h).1
    rw [Array.length_toList, peerC_size] at this
    exact this
  rw [Array.getElem?_toList, peerC_eq, rowOf_get _ _ j hj] at h
  rw [letC_eq, rowOf_get _ _ _ (by omega), ← h]
  unfold letF
  rw [if_neg (by omega), if_neg (by omega), if_neg (by omega), if_neg (by omega), if_neg (by omega), if_neg (by omega), if_pos (by omega), Nat.add_sub_cancel_left]
theorem sizeLetter : (Try.prog.info? 63).map (·.size) = some 67 := by kernel_rfl

/-! ### Kinds, addresses -/
/-- A kind's parts, as bits (1 req, 2 id, 4 avoid, 8 done, 16 peer, 32 peers); is there such a kind? -/
def partsM (k : Int) : Nat := if k = 1 then 7 else if k = 2 then 25 else if k = 3 ∨ k = 6 ∨ k = 7 then 1 else if k = 4 then 49 else if k = 8 then 48 else 0
def kindM (k : Int) : Bool := decide (1 ≤ k ∧ k ≤ 8)
attribute [local irreducible] wpQuiet wpList wpAnyH Calls
theorem parts_c (k : Int) : Says 58 #[.int .i64 k] (.tuple #[.int .i64 ((partsM k : Nat) : Int), .bool (kindM k)]) := by
  intro w
  by_cases h : kindM k = true
  · unfold kindM at h
    have h' := of_decide_eq_true h
    have hk : k = 1 ∨ k = 2 ∨ k = 3 ∨ k = 4 ∨ k = 5 ∨ k = 6 ∨ k = 7 ∨ k = 8 := by omega
    clear h h'
    rcases hk with rfl | rfl | rfl | rfl | rfl | rfl | rfl | rfl <;> (
      go_enter Try.func58, Try.ntmps58
      have hm := Mem.refl w []
      go_wp2_with ((first | refine wpList_skip (by rfl) ?_ | (refine wlL (hm := hm) (hu := by first | exact undPeer | exact undID) (hi := by (try simp only [rowOf_size, idC_size]); first | exact sizePeer | exact sizeID) (h := ?_); (try simp only [Act.put, k1, k2, k3]); (try simp only [← peerV_eq, ← idV_eq])) | refine wlLC (hm := hm) (hv := by first | exact peer0 _ _ | rfl) (hu := by first | exact undInt | exact undByteI) (h := ?_) | (refine wlS (hm := hm) (hv := (by first | rfl | exact idV_eq _ | exact labV_eq _ _ | exact rectV_eq _ _ _ _)) (hi := by (try simp only [rowOf_size, idC_size]); first | exact sizePeer | exact sizeID) (hs := by first | (simp only [rowOf_size, idC_size]; done) | rfl) (h1 := by first | rfl | exact idC_one _ | exact rowOf_one _ _ (fun _ _ => rfl) | (simp only [List.size_toArray, List.length_cons, List.all_toArray', List.all_cons, List.all_nil, Value.oneCell', Bool.and_true, Bool.and_self]; done) | (simp [Value.oneCell']; done)) (h := ?_); clear hm; intro w1 hm; (try simp only [rowOf_set, k1, k2, k3, Value.cells, Act.eval, k7, k8, k9, kA, Option.getD_some] at hm)) | (refine wlSC (hm := hm) (hi := by first | exact sizeInt | exact sizeByteI) (ho := by first | decide | (simp only [rowOf_size, idC_size]; omega) | (simp; done)) (h := ?_); clear hm; intro w1 hm; (try simp only [rowOf_set, k1, k2, k3, Value.cells, Act.eval, k7, k8, k9, kA, Option.getD_some] at hm)) | (refine wlA (hz := by first | exact zeroPeer | exact zeroID) (hm := hm) (h := ?_); clear hm; intro b1 w1 hm; (try simp only [rowOf_set, k1, k2, k3, Value.cells, Act.eval, k7, k8, k9, kA, Option.getD_some] at hm)) | (refine wl_box (by rfl) rfl (by first | exact idV_cells _ | exact labV_cells _ _ | exact rectV_cells _ _ _ _ | rfl) hm ?_; clear hm; intro b1 w1 hm) | (refine wl_build (by rfl) (built_none) rfl ?_; (try simp only [Act.put, k1, k2, k3]); (try simp only [← peerV_eq, ← idV_eq])) | (go_at_call 67; refine (odd_c _ _).mono ?_; rintro e w1 ⟨rfl, hx⟩; replace hm := hm.call hx; clear hx) | (with_reducible first | refine stBs ?_ | refine stMs ?_ | refine stAp ?_ | refine stCo ?_)); (try simp only [k4, k5, k6, Act.put, k1, k2, k3]))
      go_ret2
      exact ⟨rfl, hm.ext⟩)
  · have h1 : kindM k = false := by simpa using h
    rw [h1]
    unfold kindM at h1
    have h2 := of_decide_eq_false h1
    have e1 : ¬ k = 1 := by omega
    have e2 : ¬ k = 2 := by omega
    have e3 : ¬ k = 3 := by omega
    have e4 : ¬ k = 4 := by omega
    have e5 : ¬ k = 5 := by omega
    have e6 : ¬ k = 6 := by omega
    have e7 : ¬ k = 7 := by omega
    have e8 : ¬ k = 8 := by omega
    have hp : partsM k = 0 := by unfold partsM; rw [if_neg e1, if_neg e2, if_neg (by omega), if_neg e4, if_neg e8]
    rw [hp]
    have b1 : (k == 1) = false := by rw [beq_eq_false_iff_ne]; exact e1
    have b2 : (k == 2) = false := by rw [beq_eq_false_iff_ne]; exact e2
    have b3 : (k == 3) = false := by rw [beq_eq_false_iff_ne]; exact e3
    have b4 : (k == 4) = false := by rw [beq_eq_false_iff_ne]; exact e4
    have b5 : (k == 5) = false := by rw [beq_eq_false_iff_ne]; exact e5
    have b6 : (k == 6) = false := by rw [beq_eq_false_iff_ne]; exact e6
    have b7 : (k == 7) = false := by rw [beq_eq_false_iff_ne]; exact e7
    have b8 : (k == 8) = false := by rw [beq_eq_false_iff_ne]; exact e8
    clear h h1 h2
    go_enter Try.func58, Try.ntmps58
    have hm := Mem.refl w []
    go_wp2_with ((first | refine wpList_skip (by rfl) ?_ | (refine wlL (hm := hm) (hu := by first | exact undPeer | exact undID) (hi := by (try simp only [rowOf_size, idC_size]); first | exact sizePeer | exact sizeID) (h := ?_); (try simp only [Act.put, k1, k2, k3]); (try simp only [← peerV_eq, ← idV_eq])) | refine wlLC (hm := hm) (hv := by first | exact peer0 _ _ | rfl) (hu := by first | exact undInt | exact undByteI) (h := ?_) | (refine wlS (hm := hm) (hv := (by first | rfl | exact idV_eq _ | exact labV_eq _ _ | exact rectV_eq _ _ _ _)) (hi := by (try simp only [rowOf_size, idC_size]); first | exact sizePeer | exact sizeID) (hs := by first | (simp only [rowOf_size, idC_size]; done) | rfl) (h1 := by first | rfl | exact idC_one _ | exact rowOf_one _ _ (fun _ _ => rfl) | (simp only [List.size_toArray, List.length_cons, List.all_toArray', List.all_cons, List.all_nil, Value.oneCell', Bool.and_true, Bool.and_self]; done) | (simp [Value.oneCell']; done)) (h := ?_); clear hm; intro w1 hm; (try simp only [rowOf_set, k1, k2, k3, Value.cells, Act.eval, k7, k8, k9, kA, Option.getD_some] at hm)) | (refine wlSC (hm := hm) (hi := by first | exact sizeInt | exact sizeByteI) (ho := by first | decide | (simp only [rowOf_size, idC_size]; omega) | (simp; done)) (h := ?_); clear hm; intro w1 hm; (try simp only [rowOf_set, k1, k2, k3, Value.cells, Act.eval, k7, k8, k9, kA, Option.getD_some] at hm)) | (refine wlA (hz := by first | exact zeroPeer | exact zeroID) (hm := hm) (h := ?_); clear hm; intro b1 w1 hm; (try simp only [rowOf_set, k1, k2, k3, Value.cells, Act.eval, k7, k8, k9, kA, Option.getD_some] at hm)) | (refine wl_box (by rfl) rfl (by first | exact idV_cells _ | exact labV_cells _ _ | exact rectV_cells _ _ _ _ | rfl) hm ?_; clear hm; intro b1 w1 hm) | (refine wl_build (by rfl) (built_none) rfl ?_; (try simp only [Act.put, k1, k2, k3]); (try simp only [← peerV_eq, ← idV_eq])) | (go_at_call 67; refine (odd_c _ _).mono ?_; rintro e w1 ⟨rfl, hx⟩; replace hm := hm.call hx; clear hx) | (with_reducible first | refine stBs ?_ | refine stMs ?_ | refine stAp ?_ | refine stCo ?_)); (try simp only [k4, k5, k6, Act.put, k1, k2, k3]))
    go_ret2
    exact ⟨rfl, hm.ext⟩
def oddM (a : Int) : Bool := decide (a < 0 ∨ 999 < a)
theorem odd_c (a : Int) : Says 67 #[.int .i64 a] (.bool (oddM a)) := by
  intro w
  obtain ⟨r, hr⟩ : ∃ r, oddM a = r := ⟨_, rfl⟩
  rw [hr]
  unfold oddM at hr
  by_cases h : a < 0
  · have d0 : decide (a < 0) = true := decide_eq_true h
    have hr' : true = r := by rw [← hr]; exact (decide_eq_true (Or.inl h)).symm
    subst hr'
    clear hr
    go_enter Try.func67, Try.ntmps67
    have hm := Mem.refl w []
    go_wp2
    go_ret
    exact ⟨rfl, hm.ext⟩
  · have d0 : decide (a < 0) = false := decide_eq_false h
    have hr' : decide (999 < a) = r := by rw [← hr, decide_eq_decide]; omega
    clear hr
    go_enter Try.func67, Try.ntmps67
    have hm := Mem.refl w []
    go_wp2
    go_ret
    exact ⟨rfl, hm.ext⟩
theorem refAddr_c (a : Int) : Says 71 #[.int .i64 a] (.bool (!oddM a)) := by
  intro w
  obtain ⟨r, hr⟩ : ∃ r, (!oddM a) = r := ⟨_, rfl⟩
  rw [hr]
  unfold oddM at hr
  by_cases h : a < 0
  · have d0 : decide (0 ≤ a) = false := decide_eq_false (by omega)
    have hr' : false = r := by rw [← hr, decide_eq_true (Or.inl h)]; rfl
    subst hr'
    clear hr
    go_enter Try.func71, Try.ntmps71
    have hm := Mem.refl w []
    go_wp2
    go_ret
    exact ⟨rfl, hm.ext⟩
  · have d0 : decide (0 ≤ a) = true := decide_eq_true (by omega)
    have hr' : decide (a ≤ 999) = r := by
      rw [← hr]
      by_cases h9 : 999 < a
      · rw [decide_eq_true (show a < 0 ∨ 999 < a from Or.inr h9), decide_eq_false (show ¬ a ≤ 999 by omega)]; rfl
      · rw [decide_eq_false (show ¬ (a < 0 ∨ 999 < a) by omega), decide_eq_true (show a ≤ 999 by omega)]; rfl
    clear hr
    go_enter Try.func71, Try.ntmps71
    have hm := Mem.refl w []
    go_wp2
    go_ret
    exact ⟨rfl, hm.ext⟩
end Go.Proofs.Ytijkmbebfodhdaa

/- (Open)
  How numbers that came in are read.
-/
namespace Go.Proofs.Ytijkmbebfodhdaa
open Go.ChangeShapes Go.WideShapes Go.ChangeAt Go.RowKit
set_option linter.unusedVariables false

theorem own : ownKnob Try.prog.godebug = none := by kernel_rfl
theorem laidOut : laidOutB Try.prog = true := by kernel_rfl
theorem nat_u32 (a : Int) (h : (Lit.int .u32 a).wf = true) : ∃ n : Nat, a = (n : Int) ∧ n < 2 ^ 32 := by
  simp [Lit.wf, IntKind.min, IntKind.max, IntKind.bits, IntKind.signed] at h
  exact ⟨a.toNat, by omega, by omega⟩
theorem nat_u64 (a : Int) (h : (Lit.int .u64 a).wf = true) : ∃ n : Nat, a = (n : Int) ∧ n < 2 ^ 64 := by
  simp [Lit.wf, IntKind.min, IntKind.max, IntKind.bits, IntKind.signed] at h
  exact ⟨a.toNat, by omega, by omega⟩
end Go.Proofs.Ytijkmbebfodhdaa

/- (OpenN)
  How a slice of ints that came in is read; a load out of what was there.
-/
namespace Go.Proofs.Ytijkmbebfodhdaa
open Go.RowKit
set_option linter.unusedSimpArgs false
set_option linter.unusedVariables false
set_option maxRecDepth 20000

/-- The n ints of a slice, in the world W. -/
def IntsAt (W : World) (c : Option Addr) (n : Nat) : Prop := ∀ i, i < n → ∃ (a : Addr) (z : Int), c = some a ∧ W.cell? (a.add i) = some (.int .i64 z)
theorem open_ints5 {H : Type} {enc : TypeId × Value → H} {W : World} {c : Option Addr} {n cap : Nat} {d : DataW H} {p : List MemPlace}
    (h : DataW.Trod enc Try.prog W 0 (fun _ => true) true 49 (.slice c n cap) d p) : IntsAt W c n := by
  obtain ⟨fuel, hf⟩ := h
  have h1 : Try.prog.cellsOf 3 = 1 := by kernel_rfl
  rcases Go.ChangeShapes.open_ints (t := 49) (e := 3) (k := .i64) (by kernel_rfl) (by kernel_rfl) h1 hf with ⟨hcs, hx⟩ | ⟨a, len', cap', zs, hcs, _, hl, hm, hz, hx, hcell, hwz⟩
  · have hcs' : [Value.slice c n cap] = [.slice none 0 0] := hcs
    simp at hcs'
    obtain ⟨rfl, rfl, rfl⟩ := hcs'
    intro i hi
    omega
  · have hcs' : [Value.slice c n cap] = [.slice (some a) len' cap'] := hcs
    simp at hcs'
    obtain ⟨rfl, rfl, rfl⟩ := hcs'
    intro i hi
    simp only [if_true] at hz
    exact ⟨a, _, rfl, hcell i (by omega)⟩
theorem cell_old {w0 w : World} {L : List (Nat × Obj)} (hm : Mem w0 [] L w) {ad : Addr} {v : Value} (h : w0.cell? ad = some v) : w.cell? ad = some v := by
  have hb : ad.block < w0.heap.size := by
    rcases Nat.lt_or_ge ad.block w0.heap.size with h' | h'
    · exact h'
    · simp [World.cell?, Array.getElem?_eq_none h'] at h
  have he := hm.old ad.block hb (by simp)
  simp only [World.cell?] at h ⊢
  rw [he]; exact h
section
variable {P : Program} {ops : Array Oper} {Q : Exit → Act → World → Prop} {rest : List Oper} {a : Act} {w : World} {dst : Option Tmp} {ty : TypeId} {pos : String} {aft : Array Edge} {gd : Option (Nat × Bool)}
theorem wl_loadOld {T : TypeId} {x : Operand} {ad : Addr} {v : Value} {d : TypeDesc} (hw : Region.wanted ⟨dst, .load T x, ty, pos, aft, gd⟩ (yielded ops a.tmps) = true) (hx : a.eval x = .pointer (some ad)) (hcell : w.cell? ad = some v)
    (hu : P.underlying T = some d) (hd : (match d with | .struct _ | .array _ _ => true | _ => false) = false) (h : wpList P ops Q rest (a.put dst v) w) : wpList P ops Q (⟨dst, .load T x, ty, pos, aft, gd⟩ :: rest) a w := by
  have hagg : (isAgg T).run P w = .ok false w := by
    unfold isAgg
    rw [Sem.run_bind, run_underlying hu w]
    cases d <;> simp_all
  have hr : (execOp a.eval ⟨dst, .load T x, ty, pos, aft, gd⟩).run P w = .ok (.value v) w := by
    unfold execOp
    simp [hx, Instr.loadAt, Instr.sureAddr, Sem.run_bind, loadVar, hagg, hcell]
  exact wl_op hw fun K hK => ow_value hr (hK _ _ h)
end
section
variable {dst : Option Nat} {T ty : TypeId} {pos : String} {aft : Array Edge} {gd : Option (Nat × Bool)}
theorem exec_neqID (ρ : Operand → Value) (N : Nat) (x y : Operand) (hx : ρ x = idV N) (hy : ρ y = idV N) (w : World) : (execOp ρ ⟨dst, .binOp .neq 24 x y T, ty, pos, aft, gd⟩).run Try.prog w = .ok (.value (.bool false)) w := by
  have hq := run_equalID N N w
  rw [eqId_refl] at hq
  have heq : (binOp .neq 24 (idV N) (idV N)).run Try.prog w = .ok (.bool false) w := by
    rw [idV_eq, run_neq_struct, hq]; rfl
  have hg := run_guardID .neq x y N N w
  unfold execOp
  simp only [hx, hy]
  go_simp
theorem exec_neqL (ρ : Operand → Value) (l : Int) (b : Nat) (x y : Operand) (hx : ρ x = labV l b) (hy : ρ y = labV l b) (w : World) : (execOp ρ ⟨dst, .binOp .neq 26 x y T, ty, pos, aft, gd⟩).run Try.prog w = .ok (.value (.bool false)) w := by
  have hq := run_equalL l l b b w
  rw [show eqLab l b l b = true from by simp [eqLab]] at hq
  have heq : (binOp .neq 26 (labV l b) (labV l b)).run Try.prog w = .ok (.bool false) w := by
    rw [labV_eq, run_neq_struct, hq]; rfl
  have hg := run_guardL .neq x y l l b b w
  unfold execOp
  simp only [hx, hy]
  go_simp
end
end Go.Proofs.Ytijkmbebfodhdaa

/- (Mem13)
  The heap's laws, continued: a variable of more cells inside a block, in a walk and in a region that draws.
-/
namespace Go.Proofs.Ytijkmbebfodhdaa
open Go.RowKit
set_option linter.unusedSimpArgs false
set_option linter.unusedVariables false
section
variable {P : Program} {ops : Array Oper} {Q : Exit → Act → World → Prop} {rest : List Oper} {a : Act} {w0 w : World} {own : List Nat} {L : List (Nat × Obj)}
  {dst : Option Tmp} {ty : TypeId} {pos : String} {aft : Array Edge} {gd : Option (Nat × Bool)}
theorem wlM {T U : TypeId} {x : Operand} {b i off : Nat} {cs cs' : Array Value} {fr : Nat × Nat} {d : TypeDesc} (hw : Region.wanted ⟨dst, .load T x, ty, pos, aft, gd⟩ (yielded ops a.tmps) = true := by rfl) (hm : Mem w0 own L w)
    (hx : a.eval x = .pointer (some ⟨b, off, none⟩) := by rfl) (hL : L[i]? = some (b, .cells cs U fr) := by with_reducible first | exact at0 | exact at1 | exact at2 | exact at3 | exact at4 | exact at5 | exact at6 | exact at7 | exact at8 | exact at9) (hv : ∀ j v, cs'.toList[j]? = some v → cs[off + j]? = some v)
    (hu : P.underlying T = some d) (hd : d.isRow = true := by rfl) (hi : (P.info? T).map (·.size) = some cs'.size)
    (h : wpList P ops Q rest (a.put dst (.agg cs')) w) : wpList P ops Q (⟨dst, .load T x, ty, pos, aft, gd⟩ :: rest) a w :=
  wl_loadMid (vs := cs'.toList) hw hm hL hx hv hu hd (by simpa using hi) (by simpa using h)
theorem ld_mid {T U : TypeId} {x : Operand} {b i off : Nat} {cs cs' : Array Value} {fr : Nat × Nat} {d : TypeDesc} (hx : a.eval x = .pointer (some ⟨b, off, none⟩)) (hL : L[i]? = some (b, .cells cs U fr)) (hv : ∀ j v, cs'.toList[j]? = some v → cs[off + j]? = some v)
    (hu : P.underlying T = some d) (hd : d.isRow = true) (hi : (P.info? T).map (·.size) = some cs'.size) :
    ∀ w, Mem w0 own L w → (execOp a.eval ⟨dst, .load T x, ty, pos, aft, gd⟩).run P w = .ok (.value (.agg cs')) w := fun w hC => by
  have h := run_loadAt_mid (P := P) w b off T cs'.toList d (hC.range hL hv) hu hd (by simpa using hi)
  unfold execOp
  simp only [hx, Sem.run_bind, h, Result.andThen_ok, Sem.run_pure, Array.toArray_toList]
end
section
variable {P : Program} {ops : Array Oper} {Q : Act → Prop} {rest : List Oper} {a : Act} {w0 : World} {own : List Nat} {L : List (Nat × Obj)}
variable {dst : Option Tmp} {ty : TypeId} {pos : String} {aft : Array Edge} {gd : Option (Nat × Bool)}
theorem wqM {T U : TypeId} {x : Operand} {b i off : Nat} {cs cs' : Array Value} {fr : Nat × Nat} {d : TypeDesc} (hw : Region.wanted ⟨dst, .load T x, ty, pos, aft, gd⟩ (yielded ops a.tmps) = true := by rfl)
    (hx : a.eval x = .pointer (some ⟨b, off, none⟩) := by rfl) (hL : L[i]? = some (b, .cells cs U fr) := by with_reducible first | exact at0 | exact at1 | exact at2 | exact at3 | exact at4 | exact at5 | exact at6 | exact at7 | exact at8 | exact at9) (hv : ∀ j v, cs'.toList[j]? = some v → cs[off + j]? = some v)
    (hu : P.underlying T = some d) (hd : d.isRow = true := by rfl) (hi : (P.info? T).map (·.size) = some cs'.size)
    (h : wpQuiet P ops (Mem w0 own L) Q rest (a.put dst (.agg cs'))) : wpQuiet P ops (Mem w0 own L) Q (⟨dst, .load T x, ty, pos, aft, gd⟩ :: rest) a :=
  wq_run hw (ld_mid hx hL hv hu hd hi) h
end
end Go.Proofs.Ytijkmbebfodhdaa

/- (LetB)
  Letters: no peer; a writer's number, flag, peer; the document's peer.
-/
namespace Go.Proofs.Ytijkmbebfodhdaa
open Go.RowKit
set_option linter.unusedSimpArgs false
set_option linter.unusedVariables false
set_option maxHeartbeats 1000000
set_option maxRecDepth 20000
attribute [local irreducible] wpQuiet wpList wpAnyH Calls

theorem none_c : Says 62 #[] (peerV (-1) 0) := by
  intro w
  go_enter Try.func62, Try.ntmps62
  have hm := Mem.refl w []
  go_wp2_with (with_reducible first | refine stAl ?_ | refine stBo ?_ | refine stLo ?_ | refine stSo ?_ | refine stBu ?_ | refine stBs ?_ | refine stMs ?_ | refine stAp ?_ | refine stCo ?_); refine Stop.go (wl_alloc (by rfl) zeroPeer rfl hm ?_); clear hm; intro b2 w2 hm; simp only [Act.put, k1, k2, k3]; (try simp only [rowOf_set, k1, k2, k3, Value.cells, Act.eval, k7, k8, k9, kA, Option.getD_some] at hm)
  go_wp2_with (with_reducible first | refine stAl ?_ | refine stBo ?_ | refine stLo ?_ | refine stSo ?_ | refine stBu ?_ | refine stBs ?_ | refine stMs ?_ | refine stAp ?_ | refine stCo ?_); refine Stop.go (wl_build (by rfl) (built_none) (by simp [Act.eval]) ?_); simp only [Act.put, k1, k2, k3]
  go_wp2_with (with_reducible first | refine stAl ?_ | refine stBo ?_ | refine stLo ?_ | refine stSo ?_ | refine stBu ?_ | refine stBs ?_ | refine stMs ?_ | refine stAp ?_ | refine stCo ?_); refine Stop.go (wl_store (i := 0) (by rfl) hm rfl rfl rfl (by first | rfl | exact idV_eq _ | exact labV_eq _ _ | exact rectV_eq _ _ _ _ | exact peerV_eq _ _ | exact letV_eq _) (by first | exact sizePeer | (simp only [rowOf_size, idC_size, peerC_size]; exact sizePeer)) (by first | (simp only [rowOf_size, idC_size, peerC_size]; done) | rfl) (by first | exact peerC_one _ _ | rfl | (simp only [List.size_toArray, List.length_cons, List.all_toArray', List.all_cons, List.all_nil, Value.oneCell', Bool.and_true, Bool.and_self]; done) | (simp [Value.oneCell']; done) | exact rowOf_one _ _ (fun _ _ => rfl) | exact idC_one _ | (exact rowOf_one _ _ (by intro i _; repeat (first | rfl | split)))) ?_); clear hm; intro w3 hm; simp only [Act.put, k1, k2, k3]; simp only [rowOf_set, k1, k2, k3, Value.cells, Act.eval, k7, k8, k9, kA, Option.getD_some] at hm
  go_wp2_with ((first | refine wpList_skip (by rfl) ?_ | (refine wlL (hm := hm) (hu := by first | exact undPeer | exact undID) (hi := by (try simp only [rowOf_size, idC_size, peerC_size]); first | exact sizePeer | exact sizeID) (h := ?_); (try simp only [Act.put, k1, k2, k3]); (try simp only [← peerV_eq, ← idV_eq])) | (refine wlM (hm := hm) (hv := by first | exact peer_id _ _) (hu := by first | exact undPeer | exact undID) (hi := by (try simp only [rowOf_size, idC_size, peerC_size]); first | exact sizePeer | exact sizeID) (h := ?_); (try simp only [Act.put, k1, k2, k3]); (try simp only [← peerV_eq, ← idV_eq])) | refine wlLC (hm := hm) (hv := by first | exact peer0 _ _ | rfl) (hu := by first | exact undInt | exact undStr) (h := ?_) | (refine wlS (hm := hm) (hv := (by first | rfl | exact idV_eq _ | exact labV_eq _ _ | exact rectV_eq _ _ _ _ | exact peerV_eq _ _ | exact letV_eq _)) (hi := by (try simp only [rowOf_size, idC_size, peerC_size]); first | exact sizePeer | exact sizeID) (hs := by first | (simp only [rowOf_size, idC_size, peerC_size]; done) | rfl) (h1 := by first | rfl | exact idC_one _ | exact peerC_one _ _ | exact rowOf_one _ _ (fun _ _ => rfl) | (simp only [List.size_toArray, List.length_cons, List.all_toArray', List.all_cons, List.all_nil, Value.oneCell', Bool.and_true, Bool.and_self]; done) | (simp [Value.oneCell']; done)) (h := ?_); clear hm; intro w1 hm; (try simp only [rowOf_set, k1, k2, k3, Value.cells, Act.eval, k7, k8, k9, kA, Option.getD_some] at hm)) | (refine wlSC (hm := hm) (hi := by first | exact sizeInt | exact sizeStr) (ho := by first | decide | (simp only [rowOf_size, idC_size, peerC_size]; omega) | (simp; done)) (h := ?_); clear hm; intro w1 hm; (try simp only [rowOf_set, k1, k2, k3, Value.cells, Act.eval, k7, k8, k9, kA, Option.getD_some] at hm)) | (refine wlA (hz := by first | exact zeroPeer | exact zeroID) (hm := hm) (h := ?_); clear hm; intro b1 w1 hm; (try simp only [rowOf_set, k1, k2, k3, Value.cells, Act.eval, k7, k8, k9, kA, Option.getD_some] at hm)) | (refine wl_box (by rfl) rfl (by first | exact peerV_cells _ _ | exact letV_cells _ | exact idV_cells _ | rfl) hm ?_; clear hm; intro b1 w1 hm) | (refine wl_build (by rfl) (built_none) rfl ?_; (try simp only [Act.put, k1, k2, k3]); (try simp only [← peerV_eq, ← idV_eq])) | (go_at_call 19; refine (hn _).mono ?_; rintro e w1 ⟨rfl, hx⟩; replace hm := hm.call hx; clear hx) | (with_reducible first | refine stBs ?_ | refine stMs ?_ | refine stAp ?_ | refine stCo ?_)); (try simp only [k4, k5, k6, Act.put, k1, k2, k3]))
  refine bodyPost_ret (results_cell_row (h := rfl) _ _ _ _ _ _ _ rfl (hm.heap (i := 0) rfl) undPeer rfl (by first | exact sizePeer | (simp only [rowOf_size, idC_size, peerC_size]; exact sizePeer))) rfl ?_
  exact ⟨by rw [peerV_eq] <;> rfl, hm.ext⟩
theorem refNone_c : Says 65 #[] (peerV (-1) 0) := by
  intro w
  go_enter Try.func65, Try.ntmps65
  have hm := Mem.refl w []
  go_wp2_with (with_reducible first | refine stAl ?_ | refine stBo ?_ | refine stLo ?_ | refine stSo ?_ | refine stBu ?_ | refine stBs ?_ | refine stMs ?_ | refine stAp ?_ | refine stCo ?_); refine Stop.go (wl_alloc (by rfl) zeroPeer rfl hm ?_); clear hm; intro b2 w2 hm; simp only [Act.put, k1, k2, k3]; (try simp only [rowOf_set, k1, k2, k3, Value.cells, Act.eval, k7, k8, k9, kA, Option.getD_some] at hm)
  go_wp2_with (with_reducible first | refine stAl ?_ | refine stBo ?_ | refine stLo ?_ | refine stSo ?_ | refine stBu ?_ | refine stBs ?_ | refine stMs ?_ | refine stAp ?_ | refine stCo ?_); refine Stop.go (wl_build (by rfl) (built_none) (by simp [Act.eval]) ?_); simp only [Act.put, k1, k2, k3]
  go_wp2_with (with_reducible first | refine stAl ?_ | refine stBo ?_ | refine stLo ?_ | refine stSo ?_ | refine stBu ?_ | refine stBs ?_ | refine stMs ?_ | refine stAp ?_ | refine stCo ?_); refine Stop.go (wl_store (i := 0) (by rfl) hm rfl rfl rfl (by first | rfl | exact idV_eq _ | exact labV_eq _ _ | exact rectV_eq _ _ _ _ | exact peerV_eq _ _ | exact letV_eq _) (by first | exact sizePeer | (simp only [rowOf_size, idC_size, peerC_size]; exact sizePeer)) (by first | (simp only [rowOf_size, idC_size, peerC_size]; done) | rfl) (by first | exact peerC_one _ _ | rfl | (simp only [List.size_toArray, List.length_cons, List.all_toArray', List.all_cons, List.all_nil, Value.oneCell', Bool.and_true, Bool.and_self]; done) | (simp [Value.oneCell']; done) | exact rowOf_one _ _ (fun _ _ => rfl) | exact idC_one _ | (exact rowOf_one _ _ (by intro i _; repeat (first | rfl | split)))) ?_); clear hm; intro w3 hm; simp only [Act.put, k1, k2, k3]; simp only [rowOf_set, k1, k2, k3, Value.cells, Act.eval, k7, k8, k9, kA, Option.getD_some] at hm
  go_wp2_with ((first | refine wpList_skip (by rfl) ?_ | (refine wlL (hm := hm) (hu := by first | exact undPeer | exact undID) (hi := by (try simp only [rowOf_size, idC_size, peerC_size]); first | exact sizePeer | exact sizeID) (h := ?_); (try simp only [Act.put, k1, k2, k3]); (try simp only [← peerV_eq, ← idV_eq])) | (refine wlM (hm := hm) (hv := by first | exact peer_id _ _) (hu := by first | exact undPeer | exact undID) (hi := by (try simp only [rowOf_size, idC_size, peerC_size]); first | exact sizePeer | exact sizeID) (h := ?_); (try simp only [Act.put, k1, k2, k3]); (try simp only [← peerV_eq, ← idV_eq])) | refine wlLC (hm := hm) (hv := by first | exact peer0 _ _ | rfl) (hu := by first | exact undInt | exact undStr) (h := ?_) | (refine wlS (hm := hm) (hv := (by first | rfl | exact idV_eq _ | exact labV_eq _ _ | exact rectV_eq _ _ _ _ | exact peerV_eq _ _ | exact letV_eq _)) (hi := by (try simp only [rowOf_size, idC_size, peerC_size]); first | exact sizePeer | exact sizeID) (hs := by first | (simp only [rowOf_size, idC_size, peerC_size]; done) | rfl) (h1 := by first | rfl | exact idC_one _ | exact peerC_one _ _ | exact rowOf_one _ _ (fun _ _ => rfl) | (simp only [List.size_toArray, List.length_cons, List.all_toArray', List.all_cons, List.all_nil, Value.oneCell', Bool.and_true, Bool.and_self]; done) | (simp [Value.oneCell']; done)) (h := ?_); clear hm; intro w1 hm; (try simp only [rowOf_set, k1, k2, k3, Value.cells, Act.eval, k7, k8, k9, kA, Option.getD_some] at hm)) | (refine wlSC (hm := hm) (hi := by first | exact sizeInt | exact sizeStr) (ho := by first | decide | (simp only [rowOf_size, idC_size, peerC_size]; omega) | (simp; done)) (h := ?_); clear hm; intro w1 hm; (try simp only [rowOf_set, k1, k2, k3, Value.cells, Act.eval, k7, k8, k9, kA, Option.getD_some] at hm)) | (refine wlA (hz := by first | exact zeroPeer | exact zeroID) (hm := hm) (h := ?_); clear hm; intro b1 w1 hm; (try simp only [rowOf_set, k1, k2, k3, Value.cells, Act.eval, k7, k8, k9, kA, Option.getD_some] at hm)) | (refine wl_box (by rfl) rfl (by first | exact peerV_cells _ _ | exact letV_cells _ | exact idV_cells _ | rfl) hm ?_; clear hm; intro b1 w1 hm) | (refine wl_build (by rfl) (built_none) rfl ?_; (try simp only [Act.put, k1, k2, k3]); (try simp only [← peerV_eq, ← idV_eq])) | (go_at_call 19; refine (hn _).mono ?_; rintro e w1 ⟨rfl, hx⟩; replace hm := hm.call hx; clear hx) | (with_reducible first | refine stBs ?_ | refine stMs ?_ | refine stAp ?_ | refine stCo ?_)); (try simp only [k4, k5, k6, Act.put, k1, k2, k3]))
  refine bodyPost_ret (results_cell_row (h := rfl) _ _ _ _ _ _ _ rfl (hm.heap (i := 0) rfl) undPeer rfl (by first | exact sizePeer | (simp only [rowOf_size, idC_size, peerC_size]; exact sizePeer))) rfl ?_
  exact ⟨by rw [peerV_eq] <;> rfl, hm.ext⟩
/-- A call on a writer. -/
def TakesW (f : FuncId) (args : Array Value) (b : Nat) (s : ByteArray) (v : Value) (r : ByteArray) : Prop :=
  ∀ w, w.heap[b]? = some (.cells #[.string s] 88 (0, 0)) → Calls Try.prog f args w fun e w' => e = .returned v ∧ Mem w [b] [(b, .cells #[.string r] 88 (0, 0))] w'
theorem wNumber_c (b : Nat) (s r : ByteArray) (v : Int) (hn : Says 19 #[.string s, .int .u64 v] (.string r)) : TakesW 59 #[.pointer (some ⟨b, 0, none⟩), .int .u64 v] b s (.tuple #[]) r := by
  intro w hw
  go_enter Try.func59, Try.ntmps59
  have hm := Mem.start hw
  go_wp2_with ((first | refine wpList_skip (by rfl) ?_ | (refine wlL (hm := hm) (hu := by first | exact undPeer | exact undID) (hi := by (try simp only [rowOf_size, idC_size, peerC_size]); first | exact sizePeer | exact sizeID) (h := ?_); (try simp only [Act.put, k1, k2, k3]); (try simp only [← peerV_eq, ← idV_eq])) | (refine wlM (hm := hm) (hv := by first | exact peer_id _ _) (hu := by first | exact undPeer | exact undID) (hi := by (try simp only [rowOf_size, idC_size, peerC_size]); first | exact sizePeer | exact sizeID) (h := ?_); (try simp only [Act.put, k1, k2, k3]); (try simp only [← peerV_eq, ← idV_eq])) | refine wlLC (hm := hm) (hv := by first | exact peer0 _ _ | rfl) (hu := by first | exact undInt | exact undStr) (h := ?_) | (refine wlS (hm := hm) (hv := (by first | rfl | exact idV_eq _ | exact labV_eq _ _ | exact rectV_eq _ _ _ _ | exact peerV_eq _ _ | exact letV_eq _)) (hi := by (try simp only [rowOf_size, idC_size, peerC_size]); first | exact sizePeer | exact sizeID) (hs := by first | (simp only [rowOf_size, idC_size, peerC_size]; done) | rfl) (h1 := by first | rfl | exact idC_one _ | exact peerC_one _ _ | exact rowOf_one _ _ (fun _ _ => rfl) | (simp only [List.size_toArray, List.length_cons, List.all_toArray', List.all_cons, List.all_nil, Value.oneCell', Bool.and_true, Bool.and_self]; done) | (simp [Value.oneCell']; done)) (h := ?_); clear hm; intro w1 hm; (try simp only [rowOf_set, k1, k2, k3, Value.cells, Act.eval, k7, k8, k9, kA, Option.getD_some] at hm)) | (refine wlSC (hm := hm) (hi := by first | exact sizeInt | exact sizeStr) (ho := by first | decide | (simp only [rowOf_size, idC_size, peerC_size]; omega) | (simp; done)) (h := ?_); clear hm; intro w1 hm; (try simp only [rowOf_set, k1, k2, k3, Value.cells, Act.eval, k7, k8, k9, kA, Option.getD_some] at hm)) | (refine wlA (hz := by first | exact zeroPeer | exact zeroID) (hm := hm) (h := ?_); clear hm; intro b1 w1 hm; (try simp only [rowOf_set, k1, k2, k3, Value.cells, Act.eval, k7, k8, k9, kA, Option.getD_some] at hm)) | (refine wl_box (by rfl) rfl (by first | exact peerV_cells _ _ | exact letV_cells _ | exact idV_cells _ | rfl) hm ?_; clear hm; intro b1 w1 hm) | (refine wl_build (by rfl) (built_none) rfl ?_; (try simp only [Act.put, k1, k2, k3]); (try simp only [← peerV_eq, ← idV_eq])) | (go_at_call 19; refine (hn _).mono ?_; rintro e w1 ⟨rfl, hx⟩; replace hm := hm.call hx; clear hx) | (with_reducible first | refine stBs ?_ | refine stMs ?_ | refine stAp ?_ | refine stCo ?_)); (try simp only [k4, k5, k6, Act.put, k1, k2, k3]))
  go_end0
  exact ⟨rfl, hm⟩
theorem wFlag_c (b : Nat) (s r : ByteArray) (is : Bool) (hn : TakesW 59 #[.pointer (some ⟨b, 0, none⟩), .int .u64 (if is then 1 else 0)] b s (.tuple #[]) r) : TakesW 61 #[.pointer (some ⟨b, 0, none⟩), .bool is] b s (.tuple #[]) r := by
  intro w hw
  cases is with
  | false =>
    rw [if_neg (by decide)] at hn
    go_enter Try.func61, Try.ntmps61
    have hm := Mem.start hw
    go_wp2_with ((first | refine wpList_skip (by rfl) ?_ | (refine wlL (hm := hm) (hu := by first | exact undPeer | exact undID) (hi := by (try simp only [rowOf_size, idC_size, peerC_size]); first | exact sizePeer | exact sizeID) (h := ?_); (try simp only [Act.put, k1, k2, k3]); (try simp only [← peerV_eq, ← idV_eq])) | (refine wlM (hm := hm) (hv := by first | exact peer_id _ _) (hu := by first | exact undPeer | exact undID) (hi := by (try simp only [rowOf_size, idC_size, peerC_size]); first | exact sizePeer | exact sizeID) (h := ?_); (try simp only [Act.put, k1, k2, k3]); (try simp only [← peerV_eq, ← idV_eq])) | refine wlLC (hm := hm) (hv := by first | exact peer0 _ _ | rfl) (hu := by first | exact undInt | exact undStr) (h := ?_) | (refine wlS (hm := hm) (hv := (by first | rfl | exact idV_eq _ | exact labV_eq _ _ | exact rectV_eq _ _ _ _ | exact peerV_eq _ _ | exact letV_eq _)) (hi := by (try simp only [rowOf_size, idC_size, peerC_size]); first | exact sizePeer | exact sizeID) (hs := by first | (simp only [rowOf_size, idC_size, peerC_size]; done) | rfl) (h1 := by first | rfl | exact idC_one _ | exact peerC_one _ _ | exact rowOf_one _ _ (fun _ _ => rfl) | (simp only [List.size_toArray, List.length_cons, List.all_toArray', List.all_cons, List.all_nil, Value.oneCell', Bool.and_true, Bool.and_self]; done) | (simp [Value.oneCell']; done)) (h := ?_); clear hm; intro w1 hm; (try simp only [rowOf_set, k1, k2, k3, Value.cells, Act.eval, k7, k8, k9, kA, Option.getD_some] at hm)) | (refine wlSC (hm := hm) (hi := by first | exact sizeInt | exact sizeStr) (ho := by first | decide | (simp only [rowOf_size, idC_size, peerC_size]; omega) | (simp; done)) (h := ?_); clear hm; intro w1 hm; (try simp only [rowOf_set, k1, k2, k3, Value.cells, Act.eval, k7, k8, k9, kA, Option.getD_some] at hm)) | (refine wlA (hz := by first | exact zeroPeer | exact zeroID) (hm := hm) (h := ?_); clear hm; intro b1 w1 hm; (try simp only [rowOf_set, k1, k2, k3, Value.cells, Act.eval, k7, k8, k9, kA, Option.getD_some] at hm)) | (refine wl_box (by rfl) rfl (by first | exact peerV_cells _ _ | exact letV_cells _ | exact idV_cells _ | rfl) hm ?_; clear hm; intro b1 w1 hm) | (refine wl_build (by rfl) (built_none) rfl ?_; (try simp only [Act.put, k1, k2, k3]); (try simp only [← peerV_eq, ← idV_eq])) | (go_at_call 59; refine (hn _ (hm.heap (by with_reducible first | exact at0 | exact at1 | exact at2 | exact at3))).mono ?_; rintro e w1 ⟨rfl, hx⟩; replace hm := hm.callAt (by with_reducible first | exact at0 | exact at1 | exact at2 | exact at3) hx; clear hx; simp only [k2, k3] at hm) | (with_reducible first | refine stBs ?_ | refine stMs ?_ | refine stAp ?_ | refine stCo ?_)); (try simp only [k4, k5, k6, Act.put, k1, k2, k3]))
    go_end0
    exact ⟨rfl, hm⟩
  | true =>
    rw [if_pos rfl] at hn
    go_enter Try.func61, Try.ntmps61
    have hm := Mem.start hw
    go_wp2_with ((first | refine wpList_skip (by rfl) ?_ | (refine wlL (hm := hm) (hu := by first | exact undPeer | exact undID) (hi := by (try simp only [rowOf_size, idC_size, peerC_size]); first | exact sizePeer | exact sizeID) (h := ?_); (try simp only [Act.put, k1, k2, k3]); (try simp only [← peerV_eq, ← idV_eq])) | (refine wlM (hm := hm) (hv := by first | exact peer_id _ _) (hu := by first | exact undPeer | exact undID) (hi := by (try simp only [rowOf_size, idC_size, peerC_size]); first | exact sizePeer | exact sizeID) (h := ?_); (try simp only [Act.put, k1, k2, k3]); (try simp only [← peerV_eq, ← idV_eq])) | refine wlLC (hm := hm) (hv := by first | exact peer0 _ _ | rfl) (hu := by first | exact undInt | exact undStr) (h := ?_) | (refine wlS (hm := hm) (hv := (by first | rfl | exact idV_eq _ | exact labV_eq _ _ | exact rectV_eq _ _ _ _ | exact peerV_eq _ _ | exact letV_eq _)) (hi := by (try simp only [rowOf_size, idC_size, peerC_size]); first | exact sizePeer | exact sizeID) (hs := by first | (simp only [rowOf_size, idC_size, peerC_size]; done) | rfl) (h1 := by first | rfl | exact idC_one _ | exact peerC_one _ _ | exact rowOf_one _ _ (fun _ _ => rfl) | (simp only [List.size_toArray, List.length_cons, List.all_toArray', List.all_cons, List.all_nil, Value.oneCell', Bool.and_true, Bool.and_self]; done) | (simp [Value.oneCell']; done)) (h := ?_); clear hm; intro w1 hm; (try simp only [rowOf_set, k1, k2, k3, Value.cells, Act.eval, k7, k8, k9, kA, Option.getD_some] at hm)) | (refine wlSC (hm := hm) (hi := by first | exact sizeInt | exact sizeStr) (ho := by first | decide | (simp only [rowOf_size, idC_size, peerC_size]; omega) | (simp; done)) (h := ?_); clear hm; intro w1 hm; (try simp only [rowOf_set, k1, k2, k3, Value.cells, Act.eval, k7, k8, k9, kA, Option.getD_some] at hm)) | (refine wlA (hz := by first | exact zeroPeer | exact zeroID) (hm := hm) (h := ?_); clear hm; intro b1 w1 hm; (try simp only [rowOf_set, k1, k2, k3, Value.cells, Act.eval, k7, k8, k9, kA, Option.getD_some] at hm)) | (refine wl_box (by rfl) rfl (by first | exact peerV_cells _ _ | exact letV_cells _ | exact idV_cells _ | rfl) hm ?_; clear hm; intro b1 w1 hm) | (refine wl_build (by rfl) (built_none) rfl ?_; (try simp only [Act.put, k1, k2, k3]); (try simp only [← peerV_eq, ← idV_eq])) | (go_at_call 59; refine (hn _ (hm.heap (by with_reducible first | exact at0 | exact at1 | exact at2 | exact at3))).mono ?_; rintro e w1 ⟨rfl, hx⟩; replace hm := hm.callAt (by with_reducible first | exact at0 | exact at1 | exact at2 | exact at3) hx; clear hx; simp only [k2, k3] at hm) | (with_reducible first | refine stBs ?_ | refine stMs ?_ | refine stAp ?_ | refine stCo ?_)); (try simp only [k4, k5, k6, Act.put, k1, k2, k3]))
    go_end0
    exact ⟨rfl, hm⟩
theorem wPeer_c (b : Nat) (s s1 r : ByteArray) (a : Int) (p : Nat) (v : Int) (hv : IntKind.u64.wrap a = v) (hn : TakesW 59 #[.pointer (some ⟨b, 0, none⟩), .int .u64 v] b s (.tuple #[]) s1)
    (hp : Says 21 #[.string s1, idV p] (.string r)) : TakesW 60 #[.pointer (some ⟨b, 0, none⟩), peerV a p] b s (.tuple #[]) r := by
  intro w hw
  go_enter Try.func60, Try.ntmps60
  have hm := Mem.start hw
  go_wp2_with (with_reducible first | refine stAl ?_ | refine stBo ?_ | refine stLo ?_ | refine stSo ?_ | refine stBu ?_ | refine stBs ?_ | refine stMs ?_ | refine stAp ?_ | refine stCo ?_); refine Stop.go (wl_box (by rfl) rfl (peerV_cells a p) hm ?_); clear hm; intro b2 w2 hm; simp only [Act.put, k1, k2, k3]; (try simp only [rowOf_set, k1, k2, k3, Value.cells, Act.eval, k7, k8, k9, kA, Option.getD_some] at hm)
  go_wp2_with ((first | refine wpList_skip (by rfl) ?_ | (refine wlL (hm := hm) (hu := by first | exact undPeer | exact undID) (hi := by (try simp only [rowOf_size, idC_size, peerC_size]); first | exact sizePeer | exact sizeID) (h := ?_); (try simp only [Act.put, k1, k2, k3]); (try simp only [← peerV_eq, ← idV_eq])) | (refine wlM (hm := hm) (hv := by first | exact peer_id _ _) (hu := by first | exact undPeer | exact undID) (hi := by (try simp only [rowOf_size, idC_size, peerC_size]); first | exact sizePeer | exact sizeID) (h := ?_); (try simp only [Act.put, k1, k2, k3]); (try simp only [← peerV_eq, ← idV_eq])) | refine wlLC (hm := hm) (hv := by first | exact peer0 _ _ | rfl) (hu := by first | exact undInt | exact undStr) (h := ?_) | (refine wlS (hm := hm) (hv := (by first | rfl | exact idV_eq _ | exact labV_eq _ _ | exact rectV_eq _ _ _ _ | exact peerV_eq _ _ | exact letV_eq _)) (hi := by (try simp only [rowOf_size, idC_size, peerC_size]); first | exact sizePeer | exact sizeID) (hs := by first | (simp only [rowOf_size, idC_size, peerC_size]; done) | rfl) (h1 := by first | rfl | exact idC_one _ | exact peerC_one _ _ | exact rowOf_one _ _ (fun _ _ => rfl) | (simp only [List.size_toArray, List.length_cons, List.all_toArray', List.all_cons, List.all_nil, Value.oneCell', Bool.and_true, Bool.and_self]; done) | (simp [Value.oneCell']; done)) (h := ?_); clear hm; intro w1 hm; (try simp only [rowOf_set, k1, k2, k3, Value.cells, Act.eval, k7, k8, k9, kA, Option.getD_some] at hm)) | (refine wlSC (hm := hm) (hi := by first | exact sizeInt | exact sizeStr) (ho := by first | decide | (simp only [rowOf_size, idC_size, peerC_size]; omega) | (simp; done)) (h := ?_); clear hm; intro w1 hm; (try simp only [rowOf_set, k1, k2, k3, Value.cells, Act.eval, k7, k8, k9, kA, Option.getD_some] at hm)) | (refine wlA (hz := by first | exact zeroPeer | exact zeroID) (hm := hm) (h := ?_); clear hm; intro b1 w1 hm; (try simp only [rowOf_set, k1, k2, k3, Value.cells, Act.eval, k7, k8, k9, kA, Option.getD_some] at hm)) | (refine wl_box (by rfl) rfl (by first | exact peerV_cells _ _ | exact letV_cells _ | exact idV_cells _ | rfl) hm ?_; clear hm; intro b1 w1 hm) | (refine wl_build (by rfl) (built_none) rfl ?_; (try simp only [Act.put, k1, k2, k3]); (try simp only [← peerV_eq, ← idV_eq])) | (go_at_call 59; refine (hn _ (hm.heap (by with_reducible first | exact at0 | exact at1 | exact at2 | exact at3))).mono ?_; rintro e w1 ⟨rfl, hx⟩; replace hm := hm.callAt (by with_reducible first | exact at0 | exact at1 | exact at2 | exact at3) hx; clear hx; simp only [k2, k3] at hm) | (go_at_call 21; refine (hp _).mono ?_; rintro e w1 ⟨rfl, hx⟩; replace hm := hm.call hx; clear hx) | (with_reducible first | refine stBs ?_ | refine stMs ?_ | refine stAp ?_ | refine stCo ?_)); (try simp only [k4, k5, k6, Act.put, k1, k2, k3]))
  go_wp2_with (with_reducible first | refine stAl ?_ | refine stBo ?_ | refine stLo ?_ | refine stSo ?_ | refine stBu ?_ | refine stBs ?_ | refine stMs ?_ | refine stAp ?_ | refine stCo ?_); refine wp_region_held_drew (by kernel_rfl) (hm.erase 1).drew (fun hS => ?_); replace hm := hm.drew
  refine whS (i := 0) (hS := hS) (h := ?_)
  simp only [k4, k5, k6, Act.put, k1, k2, k3]
  refine whS (i := 1) (hS := hS) (h := ?_)
  simp only [k4, k5, k6, Act.put, k1, k2, k3]
  refine whS (i := 2) (hS := hS) (h := ?_)
  simp only [k4, k5, k6, Act.put, k1, k2, k3]
  refine whS (i := 3) (hS := hS) (h := ?_)
  simp only [k4, k5, k6, Act.put, k1, k2, k3]
  refine whS (i := 5) (hS := hS) (h := ?_)
  simp only [k4, k5, k6, Act.put, k1, k2, k3]
  refine whS (i := 6) (hS := hS) (h1 := ld_mid (i := 0) rfl rfl (peer_id _ _) undID rfl (by rw [idC_size]; exact sizeID)) (h := ?_); simp only [k4, k5, k6, Act.put, k1, k2, k3]; simp only [← idV_eq]
  refine wh_one (i := 4) (by kernel_rfl) rfl (by rfl) (fun K' hK => ?_); refine ow_value (ld_cell (i := 1) rfl rfl rfl undStr rfl _ hm) ?_; refine hK.out _ _ hS ?_; clear hK K'; simp only [k4, k5, k6, Act.put, k1, k2, k3]
  refine wh_one (i := 7) (by kernel_rfl) rfl (by rfl) (fun K' hK => ?_); go_simp; refine (hp _).mono ?_; rintro e w7 ⟨rfl, hx⟩; replace hm := hm.call hx; clear hx hS; have hS := hm.erase 1; refine hK.out _ _ hS ?_; clear hK K'; (try simp only [k4, k5, k6, Act.put, k1, k2, k3])
  refine whS (i := 8) (hS := hS) (h := ?_)
  simp only [k4, k5, k6, Act.put, k1, k2, k3]
  refine whS (i := 9) (hS := hS) (h := ?_)
  simp only [k4, k5, k6, Act.put, k1, k2, k3]
  refine wh_one (i := 10) (by kernel_rfl) rfl (by rfl) (fun K' hK => ?_); refine ow_storeCell (i := 1) hm rfl rfl rfl rfl sizeStr (Nat.zero_lt_succ 0) ?_; clear hm hS; intro w8 hm; have hS := hm.erase 1; refine hK.out _ _ hS ?_; clear hK K'; simp only [k4, k5, k6, Act.put, k1, k2, k3]
  refine wpAnyH_done (by kernel_rfl) ?_ _
  go_wp2_with ((first | refine wpList_skip (by rfl) ?_ | (refine wlL (hm := hm) (hu := by first | exact undPeer | exact undID) (hi := by (try simp only [rowOf_size, idC_size, peerC_size]); first | exact sizePeer | exact sizeID) (h := ?_); (try simp only [Act.put, k1, k2, k3]); (try simp only [← peerV_eq, ← idV_eq])) | (refine wlM (hm := hm) (hv := by first | exact peer_id _ _) (hu := by first | exact undPeer | exact undID) (hi := by (try simp only [rowOf_size, idC_size, peerC_size]); first | exact sizePeer | exact sizeID) (h := ?_); (try simp only [Act.put, k1, k2, k3]); (try simp only [← peerV_eq, ← idV_eq])) | refine wlLC (hm := hm) (hv := by first | exact peer0 _ _ | rfl) (hu := by first | exact undInt | exact undStr) (h := ?_) | (refine wlS (hm := hm) (hv := (by first | rfl | exact idV_eq _ | exact labV_eq _ _ | exact rectV_eq _ _ _ _ | exact peerV_eq _ _ | exact letV_eq _)) (hi := by (try simp only [rowOf_size, idC_size, peerC_size]); first | exact sizePeer | exact sizeID) (hs := by first | (simp only [rowOf_size, idC_size, peerC_size]; done) | rfl) (h1 := by first | rfl | exact idC_one _ | exact peerC_one _ _ | exact rowOf_one _ _ (fun _ _ => rfl) | (simp only [List.size_toArray, List.length_cons, List.all_toArray', List.all_cons, List.all_nil, Value.oneCell', Bool.and_true, Bool.and_self]; done) | (simp [Value.oneCell']; done)) (h := ?_); clear hm; intro w1 hm; (try simp only [rowOf_set, k1, k2, k3, Value.cells, Act.eval, k7, k8, k9, kA, Option.getD_some] at hm)) | (refine wlSC (hm := hm) (hi := by first | exact sizeInt | exact sizeStr) (ho := by first | decide | (simp only [rowOf_size, idC_size, peerC_size]; omega) | (simp; done)) (h := ?_); clear hm; intro w1 hm; (try simp only [rowOf_set, k1, k2, k3, Value.cells, Act.eval, k7, k8, k9, kA, Option.getD_some] at hm)) | (refine wlA (hz := by first | exact zeroPeer | exact zeroID) (hm := hm) (h := ?_); clear hm; intro b1 w1 hm; (try simp only [rowOf_set, k1, k2, k3, Value.cells, Act.eval, k7, k8, k9, kA, Option.getD_some] at hm)) | (refine wl_box (by rfl) rfl (by first | exact peerV_cells _ _ | exact letV_cells _ | exact idV_cells _ | rfl) hm ?_; clear hm; intro b1 w1 hm) | (refine wl_build (by rfl) (built_none) rfl ?_; (try simp only [Act.put, k1, k2, k3]); (try simp only [← peerV_eq, ← idV_eq])) | (go_at_call 59; refine (hn _ (hm.heap (by with_reducible first | exact at0 | exact at1 | exact at2 | exact at3))).mono ?_; rintro e w1 ⟨rfl, hx⟩; replace hm := hm.callAt (by with_reducible first | exact at0 | exact at1 | exact at2 | exact at3) hx; clear hx; simp only [k2, k3] at hm) | (go_at_call 21; refine (hp _).mono ?_; rintro e w1 ⟨rfl, hx⟩; replace hm := hm.call hx; clear hx) | (with_reducible first | refine stBs ?_ | refine stMs ?_ | refine stAp ?_ | refine stCo ?_)); (try simp only [k4, k5, k6, Act.put, k1, k2, k3]))
  go_end0
  exact ⟨rfl, hm.tail⟩
theorem refPeer_c (a : Int) (p : Nat) (v : Int) (A B : ByteArray) (hv : IntKind.u64.wrap a = v) (hsz : A.size + B.size < 2 ^ 61) (hn : Says 20 #[.int .u64 v] (.string A)) (hp : Says 22 #[idV p] (.string B)) :
    Says 64 #[peerV a p] (.string (A ++ B)) := by
  intro w
  have hs : ¬ 9223372036854775807 < A.size + B.size := by omega
  clear hsz
  go_enter Try.func64, Try.ntmps64
  have hm := Mem.refl w []
  go_wp2_with (with_reducible first | refine stAl ?_ | refine stBo ?_ | refine stLo ?_ | refine stSo ?_ | refine stBu ?_ | refine stBs ?_ | refine stMs ?_ | refine stAp ?_ | refine stCo ?_); refine Stop.go (wl_box (by rfl) rfl (peerV_cells a p) hm ?_); clear hm; intro b2 w2 hm; simp only [Act.put, k1, k2, k3]; (try simp only [rowOf_set, k1, k2, k3, Value.cells, Act.eval, k7, k8, k9, kA, Option.getD_some] at hm)
  go_wp2_with ((first | refine wpList_skip (by rfl) ?_ | (refine wlL (hm := hm) (hu := by first | exact undPeer | exact undID) (hi := by (try simp only [rowOf_size, idC_size, peerC_size]); first | exact sizePeer | exact sizeID) (h := ?_); (try simp only [Act.put, k1, k2, k3]); (try simp only [← peerV_eq, ← idV_eq])) | (refine wlM (hm := hm) (hv := by first | exact peer_id _ _) (hu := by first | exact undPeer | exact undID) (hi := by (try simp only [rowOf_size, idC_size, peerC_size]); first | exact sizePeer | exact sizeID) (h := ?_); (try simp only [Act.put, k1, k2, k3]); (try simp only [← peerV_eq, ← idV_eq])) | refine wlLC (hm := hm) (hv := by first | exact peer0 _ _ | rfl) (hu := by first | exact undInt | exact undStr) (h := ?_) | (refine wlS (hm := hm) (hv := (by first | rfl | exact idV_eq _ | exact labV_eq _ _ | exact rectV_eq _ _ _ _ | exact peerV_eq _ _ | exact letV_eq _)) (hi := by (try simp only [rowOf_size, idC_size, peerC_size]); first | exact sizePeer | exact sizeID) (hs := by first | (simp only [rowOf_size, idC_size, peerC_size]; done) | rfl) (h1 := by first | rfl | exact idC_one _ | exact peerC_one _ _ | exact rowOf_one _ _ (fun _ _ => rfl) | (simp only [List.size_toArray, List.length_cons, List.all_toArray', List.all_cons, List.all_nil, Value.oneCell', Bool.and_true, Bool.and_self]; done) | (simp [Value.oneCell']; done)) (h := ?_); clear hm; intro w1 hm; (try simp only [rowOf_set, k1, k2, k3, Value.cells, Act.eval, k7, k8, k9, kA, Option.getD_some] at hm)) | (refine wlSC (hm := hm) (hi := by first | exact sizeInt | exact sizeStr) (ho := by first | decide | (simp only [rowOf_size, idC_size, peerC_size]; omega) | (simp; done)) (h := ?_); clear hm; intro w1 hm; (try simp only [rowOf_set, k1, k2, k3, Value.cells, Act.eval, k7, k8, k9, kA, Option.getD_some] at hm)) | (refine wlA (hz := by first | exact zeroPeer | exact zeroID) (hm := hm) (h := ?_); clear hm; intro b1 w1 hm; (try simp only [rowOf_set, k1, k2, k3, Value.cells, Act.eval, k7, k8, k9, kA, Option.getD_some] at hm)) | (refine wl_box (by rfl) rfl (by first | exact peerV_cells _ _ | exact letV_cells _ | exact idV_cells _ | rfl) hm ?_; clear hm; intro b1 w1 hm) | (refine wl_build (by rfl) (built_none) rfl ?_; (try simp only [Act.put, k1, k2, k3]); (try simp only [← peerV_eq, ← idV_eq])) | (go_at_call 20; refine (hn _).mono ?_; rintro e w1 ⟨rfl, hx⟩; replace hm := hm.call hx; clear hx) | (go_at_call 22; refine (hp _).mono ?_; rintro e w1 ⟨rfl, hx⟩; replace hm := hm.call hx; clear hx) | (with_reducible first | refine stBs ?_ | refine stMs ?_ | refine stAp ?_ | refine stCo ?_)); (try simp only [k4, k5, k6, Act.put, k1, k2, k3]))
  go_wp2_with (with_reducible first | refine stAl ?_ | refine stBo ?_ | refine stLo ?_ | refine stSo ?_ | refine stBu ?_ | refine stBs ?_ | refine stMs ?_ | refine stAp ?_ | refine stCo ?_); refine wp_quiet_mem (by kernel_rfl) (by kernel_rfl) hm ?_
  repeat ((first | refine wq_skip (by rfl) ?_ | (refine wqL (hu := by first | exact undPeer | exact undID) (hi := by (try simp only [rowOf_size, idC_size, peerC_size]); first | exact sizePeer | exact sizeID) (h := ?_); (try simp only [Act.put, k1, k2, k3]); (try simp only [← peerV_eq, ← idV_eq])) | (refine wqM (hv := by first | exact peer_id _ _) (hu := by first | exact undPeer | exact undID) (hi := by (try simp only [rowOf_size, idC_size, peerC_size]); first | exact sizePeer | exact sizeID) (h := ?_); (try simp only [Act.put, k1, k2, k3]); (try simp only [← peerV_eq, ← idV_eq])) | refine wqLC (hv := by first | exact peer0 _ _ | rfl) (hu := by first | exact undInt | exact undStr) (h := ?_) | ((with_reducible show wpQuiet _ _ _ _ (⟨_, .call _, _, _, _, _⟩ :: _) _); refine wq_ask (by rfl) ?_; apply Exists.intro; refine ⟨?_, ?_⟩; (focus (intro w hC; go_simp; first | (go_at_call 20; exact (hn _).mono fun e w' h => ⟨h.1, hC.call h.2⟩) | (go_at_call 22; exact (hp _).mono fun e w' h => ⟨h.1, hC.call h.2⟩)))) | (refine wq_build (by rfl) (built_none) rfl ?_; (try simp only [Act.put, k1, k2, k3]); (try simp only [← peerV_eq, ← idV_eq])) | refine wqS (h := ?_)); (try simp only [k4, k5, k6, Act.put, k1, k2, k3]))
  refine wpQuiet_nil ?_; clear hm; intro w7 hm
  go_wp2_with ((first | refine wpList_skip (by rfl) ?_ | (refine wlL (hm := hm) (hu := by first | exact undPeer | exact undID) (hi := by (try simp only [rowOf_size, idC_size, peerC_size]); first | exact sizePeer | exact sizeID) (h := ?_); (try simp only [Act.put, k1, k2, k3]); (try simp only [← peerV_eq, ← idV_eq])) | (refine wlM (hm := hm) (hv := by first | exact peer_id _ _) (hu := by first | exact undPeer | exact undID) (hi := by (try simp only [rowOf_size, idC_size, peerC_size]); first | exact sizePeer | exact sizeID) (h := ?_); (try simp only [Act.put, k1, k2, k3]); (try simp only [← peerV_eq, ← idV_eq])) | refine wlLC (hm := hm) (hv := by first | exact peer0 _ _ | rfl) (hu := by first | exact undInt | exact undStr) (h := ?_) | (refine wlS (hm := hm) (hv := (by first | rfl | exact idV_eq _ | exact labV_eq _ _ | exact rectV_eq _ _ _ _ | exact peerV_eq _ _ | exact letV_eq _)) (hi := by (try simp only [rowOf_size, idC_size, peerC_size]); first | exact sizePeer | exact sizeID) (hs := by first | (simp only [rowOf_size, idC_size, peerC_size]; done) | rfl) (h1 := by first | rfl | exact idC_one _ | exact peerC_one _ _ | exact rowOf_one _ _ (fun _ _ => rfl) | (simp only [List.size_toArray, List.length_cons, List.all_toArray', List.all_cons, List.all_nil, Value.oneCell', Bool.and_true, Bool.and_self]; done) | (simp [Value.oneCell']; done)) (h := ?_); clear hm; intro w1 hm; (try simp only [rowOf_set, k1, k2, k3, Value.cells, Act.eval, k7, k8, k9, kA, Option.getD_some] at hm)) | (refine wlSC (hm := hm) (hi := by first | exact sizeInt | exact sizeStr) (ho := by first | decide | (simp only [rowOf_size, idC_size, peerC_size]; omega) | (simp; done)) (h := ?_); clear hm; intro w1 hm; (try simp only [rowOf_set, k1, k2, k3, Value.cells, Act.eval, k7, k8, k9, kA, Option.getD_some] at hm)) | (refine wlA (hz := by first | exact zeroPeer | exact zeroID) (hm := hm) (h := ?_); clear hm; intro b1 w1 hm; (try simp only [rowOf_set, k1, k2, k3, Value.cells, Act.eval, k7, k8, k9, kA, Option.getD_some] at hm)) | (refine wl_box (by rfl) rfl (by first | exact peerV_cells _ _ | exact letV_cells _ | exact idV_cells _ | rfl) hm ?_; clear hm; intro b1 w1 hm) | (refine wl_build (by rfl) (built_none) rfl ?_; (try simp only [Act.put, k1, k2, k3]); (try simp only [← peerV_eq, ← idV_eq])) | (go_at_call 20; refine (hn _).mono ?_; rintro e w1 ⟨rfl, hx⟩; replace hm := hm.call hx; clear hx) | (go_at_call 22; refine (hp _).mono ?_; rintro e w1 ⟨rfl, hx⟩; replace hm := hm.call hx; clear hx) | (with_reducible first | refine stBs ?_ | refine stMs ?_ | refine stAp ?_ | refine stCo ?_)); (try simp only [k4, k5, k6, Act.put, k1, k2, k3]))
  go_ret
  exact ⟨rfl, hm.ext⟩
end Go.Proofs.Ytijkmbebfodhdaa

/- (LetC)
  Letters: equality of peers; the document's parts; is a letter too big?
-/
namespace Go.Proofs.Ytijkmbebfodhdaa
open Go.RowKit
set_option linter.unusedSimpArgs false
set_option linter.unusedVariables false
set_option maxHeartbeats 1000000
set_option maxRecDepth 20000

theorem undIntS : Try.prog.underlying 49 = some (.slice 3) := by kernel_rfl
theorem undPeerS : Try.prog.underlying 61 = some (.slice 60) := by kernel_rfl
theorem sizeIntS : (Try.prog.info? 49).map (·.size) = some 1 := by kernel_rfl
theorem sizePeerS : (Try.prog.info? 61).map (·.size) = some 1 := by kernel_rfl
def eqPeer (a : Int) (p : Nat) (b : Int) (q : Nat) : Bool := a == b && eqId p q
attribute [local irreducible] wpQuiet wpList wpAnyH Calls
theorem big_c (l : Let) : Says 35 #[letV l] (.bool (decide (60 < l.an) || decide (60 < l.pn))) := by
  intro w
  by_cases h : 60 < l.an
  · rw [decide_eq_true h, Bool.true_or]
    have d0 : decide (60 < l.an) = true := decide_eq_true h
    have d0' : decide ((60 : Int) < (l.an : Int)) = true := decide_eq_true (by omega)
    go_enter Try.func35, Try.ntmps35
    have hm := Mem.refl w []
    go_wp2_with (with_reducible first | refine stAl ?_ | refine stBo ?_ | refine stLo ?_ | refine stSo ?_ | refine stBu ?_ | refine stBs ?_ | refine stMs ?_ | refine stAp ?_ | refine stCo ?_); refine Stop.go (wl_box (by rfl) rfl (letV_cells l) hm ?_); clear hm; intro b1 w1 hm; simp only [Act.put, k1, k2, k3]; (try simp only [rowOf_set, k1, k2, k3, Value.cells, Act.eval, k7, k8, k9, kA, Option.getD_some] at hm)
    go_wp2_with ((first | refine wpList_skip (by rfl) ?_ | (refine wlL (hm := hm) (hu := by first | exact undPeer | exact undID) (hi := by (try simp only [rowOf_size, idC_size, peerC_size, letC_size]); first | exact sizePeer | exact sizeID) (h := ?_); (try simp only [Act.put, k1, k2, k3]); (try simp only [← peerV_eq, ← idV_eq])) | refine wlLC (hm := hm) (hv := by first | exact let43 _ | exact let66 _ | exact peer0 _ _ | rfl) (hu := by first | exact undIntS | exact undPeerS | exact undInt) (h := ?_) | (refine wlS (hm := hm) (hv := (by first | rfl | exact idV_eq _ | exact labV_eq _ _ | exact rectV_eq _ _ _ _ | exact peerV_eq _ _ | exact letV_eq _)) (hi := by (try simp only [rowOf_size, idC_size, peerC_size, letC_size]); first | exact sizePeer | exact sizeID) (hs := by first | (simp only [rowOf_size, idC_size, peerC_size, letC_size]; done) | rfl) (h1 := by first | rfl | exact idC_one _ | exact peerC_one _ _ | exact rowOf_one _ _ (fun _ _ => rfl) | (simp only [List.size_toArray, List.length_cons, List.all_toArray', List.all_cons, List.all_nil, Value.oneCell', Bool.and_true, Bool.and_self]; done) | (simp [Value.oneCell']; done)) (h := ?_); clear hm; intro w1 hm; (try simp only [rowOf_set, k1, k2, k3, Value.cells, Act.eval, k7, k8, k9, kA, Option.getD_some] at hm)) | (refine wlSC (hm := hm) (hi := by first | exact sizeIntS | exact sizePeerS | exact sizeInt) (ho := by first | decide | (simp only [rowOf_size, idC_size, peerC_size, letC_size]; omega) | (simp; done)) (h := ?_); clear hm; intro w1 hm; (try simp only [rowOf_set, k1, k2, k3, Value.cells, Act.eval, k7, k8, k9, kA, Option.getD_some] at hm)) | (refine wlA (hz := by first | exact zeroPeer | exact zeroID) (hm := hm) (h := ?_); clear hm; intro b1 w1 hm; (try simp only [rowOf_set, k1, k2, k3, Value.cells, Act.eval, k7, k8, k9, kA, Option.getD_some] at hm)) | (refine wl_box (by rfl) rfl (by first | exact peerV_cells _ _ | exact letV_cells _ | exact idV_cells _ | rfl) hm ?_; clear hm; intro b1 w1 hm) | (go_at_call 67; refine (odd_c _ _).mono ?_; rintro e w1 ⟨rfl, hx⟩; replace hm := hm.call hx; clear hx) | (with_reducible first | refine stBs ?_ | refine stMs ?_ | refine stAp ?_ | refine stCo ?_)); (try simp only [k4, k5, k6, Act.put, k1, k2, k3]))
    go_ret
    exact ⟨rfl, hm.ext⟩
  · rw [decide_eq_false h, Bool.false_or]
    have d0 : decide (60 < l.an) = false := decide_eq_false h
    have d0' : decide ((60 : Int) < (l.an : Int)) = false := decide_eq_false (by omega)
    obtain ⟨r, hr⟩ : ∃ r, decide (60 < l.pn) = r := ⟨_, rfl⟩
    rw [hr]
    have hr2 : decide ((60 : Int) < (l.pn : Int)) = r := by rw [← hr, decide_eq_decide]; omega
    go_enter Try.func35, Try.ntmps35
    have hm := Mem.refl w []
    go_wp2_with (with_reducible first | refine stAl ?_ | refine stBo ?_ | refine stLo ?_ | refine stSo ?_ | refine stBu ?_ | refine stBs ?_ | refine stMs ?_ | refine stAp ?_ | refine stCo ?_); refine Stop.go (wl_box (by rfl) rfl (letV_cells l) hm ?_); clear hm; intro b1 w1 hm; simp only [Act.put, k1, k2, k3]; (try simp only [rowOf_set, k1, k2, k3, Value.cells, Act.eval, k7, k8, k9, kA, Option.getD_some] at hm)
    go_wp2_with ((first | refine wpList_skip (by rfl) ?_ | (refine wlL (hm := hm) (hu := by first | exact undPeer | exact undID) (hi := by (try simp only [rowOf_size, idC_size, peerC_size, letC_size]); first | exact sizePeer | exact sizeID) (h := ?_); (try simp only [Act.put, k1, k2, k3]); (try simp only [← peerV_eq, ← idV_eq])) | refine wlLC (hm := hm) (hv := by first | exact let43 _ | exact let66 _ | exact peer0 _ _ | rfl) (hu := by first | exact undIntS | exact undPeerS | exact undInt) (h := ?_) | (refine wlS (hm := hm) (hv := (by first | rfl | exact idV_eq _ | exact labV_eq _ _ | exact rectV_eq _ _ _ _ | exact peerV_eq _ _ | exact letV_eq _)) (hi := by (try simp only [rowOf_size, idC_size, peerC_size, letC_size]); first | exact sizePeer | exact sizeID) (hs := by first | (simp only [rowOf_size, idC_size, peerC_size, letC_size]; done) | rfl) (h1 := by first | rfl | exact idC_one _ | exact peerC_one _ _ | exact rowOf_one _ _ (fun _ _ => rfl) | (simp only [List.size_toArray, List.length_cons, List.all_toArray', List.all_cons, List.all_nil, Value.oneCell', Bool.and_true, Bool.and_self]; done) | (simp [Value.oneCell']; done)) (h := ?_); clear hm; intro w1 hm; (try simp only [rowOf_set, k1, k2, k3, Value.cells, Act.eval, k7, k8, k9, kA, Option.getD_some] at hm)) | (refine wlSC (hm := hm) (hi := by first | exact sizeIntS | exact sizePeerS | exact sizeInt) (ho := by first | decide | (simp only [rowOf_size, idC_size, peerC_size, letC_size]; omega) | (simp; done)) (h := ?_); clear hm; intro w1 hm; (try simp only [rowOf_set, k1, k2, k3, Value.cells, Act.eval, k7, k8, k9, kA, Option.getD_some] at hm)) | (refine wlA (hz := by first | exact zeroPeer | exact zeroID) (hm := hm) (h := ?_); clear hm; intro b1 w1 hm; (try simp only [rowOf_set, k1, k2, k3, Value.cells, Act.eval, k7, k8, k9, kA, Option.getD_some] at hm)) | (refine wl_box (by rfl) rfl (by first | exact peerV_cells _ _ | exact letV_cells _ | exact idV_cells _ | rfl) hm ?_; clear hm; intro b1 w1 hm) | (go_at_call 67; refine (odd_c _ _).mono ?_; rintro e w1 ⟨rfl, hx⟩; replace hm := hm.call hx; clear hx) | (with_reducible first | refine stBs ?_ | refine stMs ?_ | refine stAp ?_ | refine stCo ?_)); (try simp only [k4, k5, k6, Act.put, k1, k2, k3]))
    go_ret
    exact ⟨rfl, hm.ext⟩
theorem oddP_c (a : Int) (p : Nat) : Says 70 #[peerV a p] (.bool (oddM a)) := by
  intro w
  go_enter Try.func70, Try.ntmps70
  have hm := Mem.refl w []
  go_wp2_with (with_reducible first | refine stAl ?_ | refine stBo ?_ | refine stLo ?_ | refine stSo ?_ | refine stBu ?_ | refine stBs ?_ | refine stMs ?_ | refine stAp ?_ | refine stCo ?_); refine Stop.go (wl_box (by rfl) rfl (peerV_cells a p) hm ?_); clear hm; intro b1 w1 hm; simp only [Act.put, k1, k2, k3]; (try simp only [rowOf_set, k1, k2, k3, Value.cells, Act.eval, k7, k8, k9, kA, Option.getD_some] at hm)
  go_wp2_with ((first | refine wpList_skip (by rfl) ?_ | (refine wlL (hm := hm) (hu := by first | exact undPeer | exact undID) (hi := by (try simp only [rowOf_size, idC_size, peerC_size, letC_size]); first | exact sizePeer | exact sizeID) (h := ?_); (try simp only [Act.put, k1, k2, k3]); (try simp only [← peerV_eq, ← idV_eq])) | refine wlLC (hm := hm) (hv := by first | exact let43 _ | exact let66 _ | exact peer0 _ _ | rfl) (hu := by first | exact undIntS | exact undPeerS | exact undInt) (h := ?_) | (refine wlS (hm := hm) (hv := (by first | rfl | exact idV_eq _ | exact labV_eq _ _ | exact rectV_eq _ _ _ _ | exact peerV_eq _ _ | exact letV_eq _)) (hi := by (try simp only [rowOf_size, idC_size, peerC_size, letC_size]); first | exact sizePeer | exact sizeID) (hs := by first | (simp only [rowOf_size, idC_size, peerC_size, letC_size]; done) | rfl) (h1 := by first | rfl | exact idC_one _ | exact peerC_one _ _ | exact rowOf_one _ _ (fun _ _ => rfl) | (simp only [List.size_toArray, List.length_cons, List.all_toArray', List.all_cons, List.all_nil, Value.oneCell', Bool.and_true, Bool.and_self]; done) | (simp [Value.oneCell']; done)) (h := ?_); clear hm; intro w1 hm; (try simp only [rowOf_set, k1, k2, k3, Value.cells, Act.eval, k7, k8, k9, kA, Option.getD_some] at hm)) | (refine wlSC (hm := hm) (hi := by first | exact sizeIntS | exact sizePeerS | exact sizeInt) (ho := by first | decide | (simp only [rowOf_size, idC_size, peerC_size, letC_size]; omega) | (simp; done)) (h := ?_); clear hm; intro w1 hm; (try simp only [rowOf_set, k1, k2, k3, Value.cells, Act.eval, k7, k8, k9, kA, Option.getD_some] at hm)) | (refine wlA (hz := by first | exact zeroPeer | exact zeroID) (hm := hm) (h := ?_); clear hm; intro b1 w1 hm; (try simp only [rowOf_set, k1, k2, k3, Value.cells, Act.eval, k7, k8, k9, kA, Option.getD_some] at hm)) | (refine wl_box (by rfl) rfl (by first | exact peerV_cells _ _ | exact letV_cells _ | exact idV_cells _ | rfl) hm ?_; clear hm; intro b1 w1 hm) | (go_at_call 67; refine (odd_c _ _).mono ?_; rintro e w1 ⟨rfl, hx⟩; replace hm := hm.call hx; clear hx) | (with_reducible first | refine stBs ?_ | refine stMs ?_ | refine stAp ?_ | refine stCo ?_)); (try simp only [k4, k5, k6, Act.put, k1, k2, k3]))
  go_ret
  exact ⟨rfl, hm.ext⟩
/-- The document's parts, of a kind that is one. -/
def partC (k : Int) (j : Nat) : Bool := partsM k / 2 ^ j % 2 = 1
theorem peer_word (a : Int) (p i : Nat) (h : i < 20) : peerF a p (1 + i) = .int .u8 ((dig p i : Nat) : Int) := by
  unfold peerF
  rw [if_neg (by omega), Nat.add_sub_cancel_left]
end Go.Proofs.Ytijkmbebfodhdaa

/- (LetE)
  Letters: equality of peers.
-/
namespace Go.Proofs.Ytijkmbebfodhdaa
open Go.RowKit
set_option linter.unusedSimpArgs false
set_option linter.unusedVariables false
set_option maxHeartbeats 1000000
set_option maxRecDepth 20000

def samePeer (a : Int) (p : Nat) (b : Int) (q : Nat) : Bool := a == b && eqId p q
theorem eqId_iff (p q : Nat) : eqId p q = true ↔ ∀ i, i < 20 → dig p i = dig q i := by
  unfold eqId
  simp only [List.all_eq_true, List.mem_range, beq_iff_eq, Int.natCast_inj]
theorem samePeer_refl (a : Int) (p : Nat) : samePeer a p a p = true := by unfold samePeer; rw [eqId_refl]; simp
theorem peer_ext (a : Int) (p : Nat) : (peerC a p).extract 1 (1 + 20) = idC p := by
  apply Array.ext_getElem?
  intro i
  rw [Array.getElem?_extract]
  by_cases hi : i < 20
  · rw [if_pos (by rw [peerC_size]; omega), peerC_eq, rowOf_get _ _ _ (by omega), idC, rowOf_get _ _ i hi]
    unfold peerF
    rw [if_neg (by omega), Nat.add_sub_cancel_left]
  · rw [if_neg (by rw [peerC_size]; omega), Array.getElem?_eq_none (by rw [idC_size]; omega)]
theorem part_addr (a : Int) (p : Nat) (w : World) : (part 3 (peerC a p) 0).run Try.prog w = .ok (.int .i64 a) w := run_part_plain (P := Try.prog) w (by kernel_rfl) (peer0 a p)
theorem part_id (a : Int) (p : Nat) (w : World) : (part 24 (peerC a p) 1).run Try.prog w = .ok (.agg (idC p)) w := by
  have hagg : (isAgg 24).run Try.prog w = .ok true w := by
    unfold isAgg
    rw [Sem.run_bind, run_underlying undID w]
    rfl
  have hsz : (sizeOf 24).run Try.prog w = .ok 20 w := by
    cases hi : Try.prog.info? 24 with
    | none => have := sizeID; simp [hi] at this
    | some i =>
      have := sizeID
      simp [hi] at this
      simp [sizeOf, typeInfo, hi, this]
  unfold part
  simp only [Sem.run_bind, hagg, Result.andThen_ok, if_true, hsz, Sem.run_pure, peer_ext]
noncomputable def pf (i : Nat) : Field := (Try.prog.fieldsOf 60).toList.getD i default
theorem peer_fields : (Try.prog.fieldsOf 60).toList = [pf 0, pf 1] := by kernel_rfl
theorem pf0 : (pf 0).type = 3 ∧ (pf 0).offset = 0 ∧ (pf 0).name ≠ "_" := ⟨by kernel_rfl, by kernel_rfl, by decide +kernel⟩
theorem pf1 : (pf 1).type = 24 ∧ (pf 1).offset = 1 ∧ (pf 1).name ≠ "_" := ⟨by kernel_rfl, by kernel_rfl, by decide +kernel⟩
theorem equal_id (p q : Nat) (w : World) : (Op.equalIn 9999 24 (.agg (idC p)) (.agg (idC q))).run Try.prog w = .ok (eqId p q) w := by
  rw [run_equalInts w 9997 undID undByteI sizeByteI (idC p) (idC q) (fun i => ((dig p i : Nat) : Int)) (fun i => ((dig q i : Nat) : Int)) (fun i hi => ⟨rowOf_get _ _ i hi, rowOf_get _ _ i hi⟩)]
  rfl
theorem run_equalPeer (a : Int) (p : Nat) (b : Int) (q : Nat) (w : World) : (Op.equalIn 10000 60 (.agg (peerC a p)) (.agg (peerC b q))).run Try.prog w = .ok (samePeer a p b q) w := by
  rw [run_equalIn_struct w 9999 _ _ _ (by kernel_rfl) (by kernel_rfl), peer_fields]
  obtain ⟨t0, o0, n0⟩ := pf0
  obtain ⟨t1, o1, n1⟩ := pf1
  have hi := run_equalIn_int (P := Try.prog) w 9998 3 .i64 .i64 a b undInt
  unfold samePeer
  unfold Op.eqFields
  rw [if_pos n0, t0, o0]
  simp only [Sem.run_bind, part_addr, Result.andThen_ok, hi]
  cases hab : a == b with
  | false => simp [Sem.run_pure]
  | true =>
    simp only [Bool.not_true, Bool.false_eq_true, if_false]
    unfold Op.eqFields
    rw [if_pos n1, t1, o1]
    simp only [Sem.run_bind, part_id, Result.andThen_ok, equal_id]
    cases eqId p q with
    | false => simp [Sem.run_pure]
    | true => simp [Op.eqFields, Sem.run_pure]
@[go_sem] theorem run_eqlPeer (a : Int) (p : Nat) (b : Int) (q : Nat) (w : World) : (binOp .eql 60 (peerV a p) (peerV b q)).run Try.prog w = .ok (.bool (samePeer a p b q)) w := by
  rw [peerV_eq, peerV_eq, run_eql_struct, run_equalPeer]; rfl
@[go_sem] theorem run_neqPeer (a : Int) (p : Nat) (b : Int) (q : Nat) (w : World) : (binOp .neq 60 (peerV a p) (peerV b q)).run Try.prog w = .ok (.bool (!samePeer a p b q)) w := by
  rw [peerV_eq, peerV_eq, run_neq_struct, run_equalPeer]; rfl
@[go_sem] theorem run_guardPeer (op : BinOp) (x y : Operand) (a : Int) (p : Nat) (b : Int) (q : Nat) (w : World) : (eqGuard op 60 x y (peerV a p) (peerV b q)).run Try.prog w = .ok () w := by
  rw [peerV_eq, peerV_eq]
  exact run_eqGuard_agg w op _ x y _ _ (by kernel_rfl)
end Go.Proofs.Ytijkmbebfodhdaa
