/-
  Wire: a label's bytes.
-/
import Derived.Test.YtijkmbebfodhdaaWirB
namespace Go.Proofs.Ytijkmbebfodhdaa
open Go.RowKit
set_option linter.unusedSimpArgs false
set_option linter.unusedVariables false
set_option maxHeartbeats 1000000
set_option maxRecDepth 20000
attribute [local irreducible] wpQuiet wpList wpAnyH Calls

/-- A label's bytes: how many bits, and these. -/
def labF (n b j : Nat) : Nat := if j = 0 then n else b / 2 ^ (64 - 8 * j) % 256
theorem putLabel_no (b : ByteArray) (len : Int) (k : Nat) (hi : Says 33 #[labV len k] (.bool false)) : Says 14 #[.string b, labV len k] (.tuple #[.string { data := #[] }, .int .i64 1]) := by
  intro w
  go_enter Try.func14, Try.ntmps14
  have hm := Mem.refl w []
  go_wp2_with ((first | refine wpList_skip (by rfl) ?_ | (refine wlL (hm := hm) (hu := by first | exact undID | exact undLabel) (hi := by (try simp only [rowOf_size, idC_size]); first | exact sizeID | exact sizeLabel) (h := ?_); (try simp only [Act.put, k1, k2, k3]); (try simp only [← labV_eq, ← idV_eq])) | refine wlLC (hm := hm) (hu := by first | exact undByteI | exact undInt | exact undU64) (h := ?_) | (refine wlS (hm := hm) (hv := (by first | rfl | exact idV_eq _ | exact labV_eq _ _ | exact rectV_eq _ _ _ _)) (hi := by (try simp only [rowOf_size, idC_size]); first | exact sizeID | exact sizeLabel) (hs := by first | (simp only [rowOf_size, idC_size]; done) | rfl) (h1 := by first | rfl | exact idC_one _ | exact rowOf_one _ _ (fun _ _ => rfl) | (simp only [List.size_toArray, List.length_cons, List.all_toArray', List.all_cons, List.all_nil, Value.oneCell', Bool.and_true, Bool.and_self]; done) | (simp [Value.oneCell']; done)) (h := ?_); clear hm; intro w1 hm; (try simp only [rowOf_set, k1, k2, k3, Value.cells, Act.eval, k7, k8, k9, kA, Option.getD_some] at hm)) | (refine wlSC (hm := hm) (hi := by first | exact sizeByteI | exact sizeInt | exact sizeU64) (ho := by first | decide | (simp only [rowOf_size, idC_size]; omega) | (simp; done)) (h := ?_); clear hm; intro w1 hm; (try simp only [rowOf_set, k1, k2, k3, Value.cells, Act.eval, k7, k8, k9, kA, Option.getD_some] at hm)) | (refine wlA (hz := by first | exact zeroID | exact zeroLabel) (hm := hm) (h := ?_); clear hm; intro b1 w1 hm; (try simp only [rowOf_set, k1, k2, k3, Value.cells, Act.eval, k7, k8, k9, kA, Option.getD_some] at hm)) | (refine wl_box (by rfl) rfl (by first | exact idV_cells _ | exact labV_cells _ _ | exact rectV_cells _ _ _ _ | rfl) hm ?_; clear hm; intro b1 w1 hm) | (go_at_call 33; refine (hi _).mono ?_; rintro e w1 ⟨rfl, hx⟩; replace hm := hm.call hx; clear hx) | (with_reducible first | refine stBs ?_ | refine stMs ?_ | refine stAp ?_ | refine stCo ?_ | (show wpList _ _ _ (⟨_, .convert 71 9 _, _, _, _, _⟩ :: _) _ _; refine Stop.mk ?_))); (try simp only [k4, k5, k6, Act.put, k1, k2, k3]))
  go_ret2
  exact ⟨rfl, hm.ext⟩
theorem putLabel_c (B : ByteArray) (hB : B.size < 2 ^ 61) (n b : Nat) (hn : n ≤ 64) (hi : Says 33 #[labV (n : Int) b] (.bool true)) :
    Says 14 #[.string B, labV (n : Int) b] (.tuple #[.string (B ++ bytesB ((n + 7) / 8 + 1) (labF n b)), .int .i64 0]) := by
  intro w
  have f5 : IntKind.u8.wrap (n : Int) = (n : Int) := wrap_u8 (by omega) (by omega)
  have HF := hid (show ∀ k, k < (n + 7) / 8 → labF n b (k + 1) = b / 2 ^ (56 - 8 * k) % 256 from fun k h => by
    unfold labF
    rw [if_neg (by omega), show 64 - 8 * (k + 1) = 56 - 8 * k from by omega])
  have HF0 := hid (show labF n b 0 = n from by unfold labF; rfl)
  have HM := hid (show ∀ k, (k < (n + 7) / 8 ↔ 8 * k < n) from fun k => by omega)
  have hz := bytesB_size ((n + 7) / 8 + 1) (labF n b)
  obtain ⟨F, hF⟩ : ∃ F, labF n b = F := ⟨_, rfl⟩
  rw [hF] at HF HF0 hz ⊢
  clear hF
  obtain ⟨m, hmm⟩ : ∃ m, (n + 7) / 8 = m := ⟨_, rfl⟩
  rw [hmm] at HF HM hz ⊢
  have HN := hid (show n ≤ 64 ∧ m ≤ 8 from ⟨hn, by omega⟩)
  have HB := hid hB
  clear hmm hn hB
  go_enter Try.func14, Try.ntmps14
  have hm := Mem.refl w []
  go_wp2_with (with_reducible first | refine stAl ?_ | refine stBo ?_ | refine stLo ?_ | refine stSo ?_ | refine stBu ?_ | refine stBs ?_ | refine stMs ?_ | refine stAp ?_ | refine stCo ?_ | (show wpList _ _ _ (⟨_, .convert 71 9 _, _, _, _, _⟩ :: _) _ _; refine Stop.mk ?_)); refine Stop.go (wl_box (by rfl) rfl (labV_cells (n : Int) b) hm ?_); clear hm; intro b1 w1 hm; simp only [Act.put, k1, k2, k3]; (try simp only [rowOf_set, k1, k2, k3, Value.cells, Act.eval, k7, k8, k9, kA, Option.getD_some] at hm)
  go_wp2_with ((first | refine wpList_skip (by rfl) ?_ | (refine wlL (hm := hm) (hu := by first | exact undID | exact undLabel) (hi := by (try simp only [rowOf_size, idC_size]); first | exact sizeID | exact sizeLabel) (h := ?_); (try simp only [Act.put, k1, k2, k3]); (try simp only [← labV_eq, ← idV_eq])) | refine wlLC (hm := hm) (hu := by first | exact undByteI | exact undInt | exact undU64) (h := ?_) | (refine wlS (hm := hm) (hv := (by first | rfl | exact idV_eq _ | exact labV_eq _ _ | exact rectV_eq _ _ _ _)) (hi := by (try simp only [rowOf_size, idC_size]); first | exact sizeID | exact sizeLabel) (hs := by first | (simp only [rowOf_size, idC_size]; done) | rfl) (h1 := by first | rfl | exact idC_one _ | exact rowOf_one _ _ (fun _ _ => rfl) | (simp only [List.size_toArray, List.length_cons, List.all_toArray', List.all_cons, List.all_nil, Value.oneCell', Bool.and_true, Bool.and_self]; done) | (simp [Value.oneCell']; done)) (h := ?_); clear hm; intro w1 hm; (try simp only [rowOf_set, k1, k2, k3, Value.cells, Act.eval, k7, k8, k9, kA, Option.getD_some] at hm)) | (refine wlSC (hm := hm) (hi := by first | exact sizeByteI | exact sizeInt | exact sizeU64) (ho := by first | decide | (simp only [rowOf_size, idC_size]; omega) | (simp; done)) (h := ?_); clear hm; intro w1 hm; (try simp only [rowOf_set, k1, k2, k3, Value.cells, Act.eval, k7, k8, k9, kA, Option.getD_some] at hm)) | (refine wlA (hz := by first | exact zeroID | exact zeroLabel) (hm := hm) (h := ?_); clear hm; intro b1 w1 hm; (try simp only [rowOf_set, k1, k2, k3, Value.cells, Act.eval, k7, k8, k9, kA, Option.getD_some] at hm)) | (refine wl_box (by rfl) rfl (by first | exact idV_cells _ | exact labV_cells _ _ | exact rectV_cells _ _ _ _ | rfl) hm ?_; clear hm; intro b1 w1 hm) | (go_at_call 33; refine (hi _).mono ?_; rintro e w1 ⟨rfl, hx⟩; replace hm := hm.call hx; clear hx) | (with_reducible first | refine stBs ?_ | refine stMs ?_ | refine stAp ?_ | refine stCo ?_ | (show wpList _ _ _ (⟨_, .convert 71 9 _, _, _, _, _⟩ :: _) _ _; refine Stop.mk ?_))); (try simp only [k4, k5, k6, Act.put, k1, k2, k3]))
  refine Stop.go (wl_buildSlice (ps := [(0, .int .u8 (n : Int))]) (cells := #[.int .u8 (n : Int)]) (by rfl) hm elByteI (by decide) (by decide) (by simp [Act.eval]) (fill_one _ _ rfl) ?_)
  clear hm; intro g0 w5 hm; simp only [Act.put, k1, k2, k3]
  go_wp2_with ((first | refine wpList_skip (by rfl) ?_ | (refine wlL (hm := hm) (hu := by first | exact undID | exact undLabel) (hi := by (try simp only [rowOf_size, idC_size]); first | exact sizeID | exact sizeLabel) (h := ?_); (try simp only [Act.put, k1, k2, k3]); (try simp only [← labV_eq, ← idV_eq])) | refine wlLC (hm := hm) (hu := by first | exact undByteI | exact undInt | exact undU64) (h := ?_) | (refine wlS (hm := hm) (hv := (by first | rfl | exact idV_eq _ | exact labV_eq _ _ | exact rectV_eq _ _ _ _)) (hi := by (try simp only [rowOf_size, idC_size]); first | exact sizeID | exact sizeLabel) (hs := by first | (simp only [rowOf_size, idC_size]; done) | rfl) (h1 := by first | rfl | exact idC_one _ | exact rowOf_one _ _ (fun _ _ => rfl) | (simp only [List.size_toArray, List.length_cons, List.all_toArray', List.all_cons, List.all_nil, Value.oneCell', Bool.and_true, Bool.and_self]; done) | (simp [Value.oneCell']; done)) (h := ?_); clear hm; intro w1 hm; (try simp only [rowOf_set, k1, k2, k3, Value.cells, Act.eval, k7, k8, k9, kA, Option.getD_some] at hm)) | (refine wlSC (hm := hm) (hi := by first | exact sizeByteI | exact sizeInt | exact sizeU64) (ho := by first | decide | (simp only [rowOf_size, idC_size]; omega) | (simp; done)) (h := ?_); clear hm; intro w1 hm; (try simp only [rowOf_set, k1, k2, k3, Value.cells, Act.eval, k7, k8, k9, kA, Option.getD_some] at hm)) | (refine wlA (hz := by first | exact zeroID | exact zeroLabel) (hm := hm) (h := ?_); clear hm; intro b1 w1 hm; (try simp only [rowOf_set, k1, k2, k3, Value.cells, Act.eval, k7, k8, k9, kA, Option.getD_some] at hm)) | (refine wl_box (by rfl) rfl (by first | exact idV_cells _ | exact labV_cells _ _ | exact rectV_cells _ _ _ _ | rfl) hm ?_; clear hm; intro b1 w1 hm) | (go_at_call 33; refine (hi _).mono ?_; rintro e w1 ⟨rfl, hx⟩; replace hm := hm.call hx; clear hx) | (with_reducible first | refine stBs ?_ | refine stMs ?_ | refine stAp ?_ | refine stCo ?_ | (show wpList _ _ _ (⟨_, .convert 71 9 _, _, _, _, _⟩ :: _) _ _; refine Stop.mk ?_))); (try simp only [k4, k5, k6, Act.put, k1, k2, k3]))
  have hr0 : RowB F 1 1 #[.int .u8 (n : Int)] := ⟨by omega, by omega, rfl, fun j hj => by rw [show j = 0 from by omega, HF0.out]; rfl⟩
  go_loopw [6, 7] (fun vs va wr => ∃ (k at' g cap : Nat) (cur : Array Value), k ≤ m ∧ 8 * k = at' ∧ va = .int .i64 (at' : Int) ∧ vs = .slice (some ⟨g, 0, none⟩) (k + 1) cap ∧ Hid (RowB F (k + 1) cap cur) ∧ Mem w [] [(g, .cells cur 5 (0, 0)), (b1, .cells #[.int .i64 (n : Int), .int .u64 (b : Int)] 26 (0, 0))] wr)
    (fun _ va _ => (100 - intOf va).toNat)
  case atStart => exact ⟨0, 0, g0, 1, _, by omega, rfl, rfl, rfl, hid hr0, hm⟩
  case round =>
    clear hm hr0
    obtain ⟨k, at', g, cap, cur, hk, hat, rfl, rfl, HR, hm⟩ := hrel
    by_cases hkm : k < m
    · have hlt : at' < n := by have := (HM.out k).1 hkm; omega
      have hl2 : (at' : Int) < (n : Int) := by omega
      have hn8 := HN.out
      obtain ⟨s, hs⟩ : ∃ s, 56 - 8 * k = s := ⟨_, rfl⟩
      have hfb := HF.out k hkm
      rw [hs] at hfb
      obtain ⟨p, hp⟩ : ∃ p, b / 2 ^ s = p := ⟨_, rfl⟩
      rw [hp] at hfb
      obtain ⟨r, hr⟩ : ∃ r, p % 256 = r := ⟨_, rfl⟩
      rw [hr] at hfb
      have g1 : IntKind.i64.wrap (56 - (at' : Int)) = (s : Int) := by rw [wrap_i64 (by omega) (by omega)]; omega
      have g2 : (b : Int) / 2 ^ s = (p : Int) := by rw [← hp]; push_cast; rfl
      have g3 : IntKind.u8.wrap (p : Int) = (r : Int) := by rw [wrap_byte, hr]
      have g4 : IntKind.i64.wrap ((at' : Int) + 8) = (at' : Int) + 8 := wrap_i64 (by omega) (by omega)
      have z0 : (0 : Int) ≤ (s : Int) := by omega
      have z1 : (s : Int) ≤ 64 := by omega
      have HX := hid hfb
      have HA := hid (show 8 * (k + 1) = at' + 8 ∧ k < m ∧ at' < 64 from ⟨by omega, hkm, by omega⟩)
      clear hfb hs hp hr hn8 hk hat hkm
      go_wp2_with ((first | refine wpList_skip (by rfl) ?_ | (refine wlL (hm := hm) (hu := by first | exact undID | exact undLabel) (hi := by (try simp only [rowOf_size, idC_size]); first | exact sizeID | exact sizeLabel) (h := ?_); (try simp only [Act.put, k1, k2, k3]); (try simp only [← labV_eq, ← idV_eq])) | refine wlLC (hm := hm) (hu := by first | exact undByteI | exact undInt | exact undU64) (h := ?_) | (refine wlS (hm := hm) (hv := (by first | rfl | exact idV_eq _ | exact labV_eq _ _ | exact rectV_eq _ _ _ _)) (hi := by (try simp only [rowOf_size, idC_size]); first | exact sizeID | exact sizeLabel) (hs := by first | (simp only [rowOf_size, idC_size]; done) | rfl) (h1 := by first | rfl | exact idC_one _ | exact rowOf_one _ _ (fun _ _ => rfl) | (simp only [List.size_toArray, List.length_cons, List.all_toArray', List.all_cons, List.all_nil, Value.oneCell', Bool.and_true, Bool.and_self]; done) | (simp [Value.oneCell']; done)) (h := ?_); clear hm; intro w1 hm; (try simp only [rowOf_set, k1, k2, k3, Value.cells, Act.eval, k7, k8, k9, kA, Option.getD_some] at hm)) | (refine wlSC (hm := hm) (hi := by first | exact sizeByteI | exact sizeInt | exact sizeU64) (ho := by first | decide | (simp only [rowOf_size, idC_size]; omega) | (simp; done)) (h := ?_); clear hm; intro w1 hm; (try simp only [rowOf_set, k1, k2, k3, Value.cells, Act.eval, k7, k8, k9, kA, Option.getD_some] at hm)) | (refine wlA (hz := by first | exact zeroID | exact zeroLabel) (hm := hm) (h := ?_); clear hm; intro b1 w1 hm; (try simp only [rowOf_set, k1, k2, k3, Value.cells, Act.eval, k7, k8, k9, kA, Option.getD_some] at hm)) | (refine wl_box (by rfl) rfl (by first | exact idV_cells _ | exact labV_cells _ _ | exact rectV_cells _ _ _ _ | rfl) hm ?_; clear hm; intro b1 w1 hm) | (go_at_call 33; refine (hi _).mono ?_; rintro e w1 ⟨rfl, hx⟩; replace hm := hm.call hx; clear hx) | (with_reducible first | refine stBs ?_ | refine stMs ?_ | refine stAp ?_ | refine stCo ?_ | (show wpList _ _ _ (⟨_, .convert 71 9 _, _, _, _, _⟩ :: _) _ _; refine Stop.mk ?_))); (try simp only [k4, k5, k6, Act.put, k1, k2, k3]))
      refine Stop.go (wl_buildSlice (ps := [(0, .int .u8 (r : Int))]) (cells := #[.int .u8 (r : Int)]) (by rfl) hm elByteI (by decide) (by decide) (by simp [Act.eval]) (fill_one _ _ rfl) ?_)
      clear hm; intro gn w6 hm; simp only [Act.put, k1, k2, k3]
      go_wp2_with ((first | refine wpList_skip (by rfl) ?_ | (refine wlL (hm := hm) (hu := by first | exact undID | exact undLabel) (hi := by (try simp only [rowOf_size, idC_size]); first | exact sizeID | exact sizeLabel) (h := ?_); (try simp only [Act.put, k1, k2, k3]); (try simp only [← labV_eq, ← idV_eq])) | refine wlLC (hm := hm) (hu := by first | exact undByteI | exact undInt | exact undU64) (h := ?_) | (refine wlS (hm := hm) (hv := (by first | rfl | exact idV_eq _ | exact labV_eq _ _ | exact rectV_eq _ _ _ _)) (hi := by (try simp only [rowOf_size, idC_size]); first | exact sizeID | exact sizeLabel) (hs := by first | (simp only [rowOf_size, idC_size]; done) | rfl) (h1 := by first | rfl | exact idC_one _ | exact rowOf_one _ _ (fun _ _ => rfl) | (simp only [List.size_toArray, List.length_cons, List.all_toArray', List.all_cons, List.all_nil, Value.oneCell', Bool.and_true, Bool.and_self]; done) | (simp [Value.oneCell']; done)) (h := ?_); clear hm; intro w1 hm; (try simp only [rowOf_set, k1, k2, k3, Value.cells, Act.eval, k7, k8, k9, kA, Option.getD_some] at hm)) | (refine wlSC (hm := hm) (hi := by first | exact sizeByteI | exact sizeInt | exact sizeU64) (ho := by first | decide | (simp only [rowOf_size, idC_size]; omega) | (simp; done)) (h := ?_); clear hm; intro w1 hm; (try simp only [rowOf_set, k1, k2, k3, Value.cells, Act.eval, k7, k8, k9, kA, Option.getD_some] at hm)) | (refine wlA (hz := by first | exact zeroID | exact zeroLabel) (hm := hm) (h := ?_); clear hm; intro b1 w1 hm; (try simp only [rowOf_set, k1, k2, k3, Value.cells, Act.eval, k7, k8, k9, kA, Option.getD_some] at hm)) | (refine wl_box (by rfl) rfl (by first | exact idV_cells _ | exact labV_cells _ _ | exact rectV_cells _ _ _ _ | rfl) hm ?_; clear hm; intro b1 w1 hm) | (go_at_call 33; refine (hi _).mono ?_; rintro e w1 ⟨rfl, hx⟩; replace hm := hm.call hx; clear hx) | (with_reducible first | refine stBs ?_ | refine stMs ?_ | refine stAp ?_ | refine stCo ?_ | (show wpList _ _ _ (⟨_, .convert 71 9 _, _, _, _, _⟩ :: _) _ _; refine Stop.mk ?_))); (try simp only [k4, k5, k6, Act.put, k1, k2, k3]))
      have hnw := news_of (i := 0) hm rfl
      have hn8 := HN.out
      have hi := HA.out
      refine Stop.go (wl_op (by rfl) fun K hK => ow_append (i := 1) (n := k + 1) (m := 1) (c := 1) (news := [.int .u8 (r : Int)]) (ad := ⟨gn, 0, none⟩) (sz := 1) (cur := cur) (g := g) hm elByteI ?h1 ?h2 ?h3 ?h4 HR.out.1 ?h5 ?h6 hnw ?h7 ?h8 ?h9 ?h10)
      case h1 => rfl
      case h2 => rfl
      case h3 => rfl
      case h4 => rfl
      case h5 => have := HR.out.2.2.1; omega
      case h6 => rfl
      case h7 => simp [Value.oneCell']
      case h8 => omega
      case h9 => omega
      clear hn8 hi
      intro g' cap' cur' w7 hm' p1 p2 p3 p4 p5 p6; clear hm; have hm := hm'; clear hm'; refine hK _ _ ?_; clear hK K; simp only [Act.put, k1, k2, k3]
      have HP := hid (rowB_push HR.out p1 p2 p3 p4 (by rw [p5 0 (by omega), HX.out]; rfl))
      clear p1 p2 p3 p4 p5 p6
      go_wp2_with ((first | refine wpList_skip (by rfl) ?_ | (refine wlL (hm := hm) (hu := by first | exact undID | exact undLabel) (hi := by (try simp only [rowOf_size, idC_size]); first | exact sizeID | exact sizeLabel) (h := ?_); (try simp only [Act.put, k1, k2, k3]); (try simp only [← labV_eq, ← idV_eq])) | refine wlLC (hm := hm) (hu := by first | exact undByteI | exact undInt | exact undU64) (h := ?_) | (refine wlS (hm := hm) (hv := (by first | rfl | exact idV_eq _ | exact labV_eq _ _ | exact rectV_eq _ _ _ _)) (hi := by (try simp only [rowOf_size, idC_size]); first | exact sizeID | exact sizeLabel) (hs := by first | (simp only [rowOf_size, idC_size]; done) | rfl) (h1 := by first | rfl | exact idC_one _ | exact rowOf_one _ _ (fun _ _ => rfl) | (simp only [List.size_toArray, List.length_cons, List.all_toArray', List.all_cons, List.all_nil, Value.oneCell', Bool.and_true, Bool.and_self]; done) | (simp [Value.oneCell']; done)) (h := ?_); clear hm; intro w1 hm; (try simp only [rowOf_set, k1, k2, k3, Value.cells, Act.eval, k7, k8, k9, kA, Option.getD_some] at hm)) | (refine wlSC (hm := hm) (hi := by first | exact sizeByteI | exact sizeInt | exact sizeU64) (ho := by first | decide | (simp only [rowOf_size, idC_size]; omega) | (simp; done)) (h := ?_); clear hm; intro w1 hm; (try simp only [rowOf_set, k1, k2, k3, Value.cells, Act.eval, k7, k8, k9, kA, Option.getD_some] at hm)) | (refine wlA (hz := by first | exact zeroID | exact zeroLabel) (hm := hm) (h := ?_); clear hm; intro b1 w1 hm; (try simp only [rowOf_set, k1, k2, k3, Value.cells, Act.eval, k7, k8, k9, kA, Option.getD_some] at hm)) | (refine wl_box (by rfl) rfl (by first | exact idV_cells _ | exact labV_cells _ _ | exact rectV_cells _ _ _ _ | rfl) hm ?_; clear hm; intro b1 w1 hm) | (go_at_call 33; refine (hi _).mono ?_; rintro e w1 ⟨rfl, hx⟩; replace hm := hm.call hx; clear hx) | (with_reducible first | refine stBs ?_ | refine stMs ?_ | refine stAp ?_ | refine stCo ?_ | (show wpList _ _ _ (⟨_, .convert 71 9 _, _, _, _, _⟩ :: _) _ _; refine Stop.mk ?_))); (try simp only [k4, k5, k6, Act.put, k1, k2, k3]))
      go_roundw
      case rel => exact ⟨k + 1, at' + 8, g', cap', cur', by have := HA.out; omega, HA.out.1, by go_num, rfl, HP, hm.tail⟩
      case measure => (have := HA.out; simp [intOf]; try omega)
    · obtain rfl : k = m := by omega
      have hlt : ¬ at' < n := by have := (HM.out k).2; omega
      have hs3 : ¬ 9223372036854775807 < B.size + (k + 1) := by have := HB.out; have := HN.out; omega
      clear hk hat hkm
      go_wp2_with ((first | refine wpList_skip (by rfl) ?_ | (refine wlL (hm := hm) (hu := by first | exact undID | exact undLabel) (hi := by (try simp only [rowOf_size, idC_size]); first | exact sizeID | exact sizeLabel) (h := ?_); (try simp only [Act.put, k1, k2, k3]); (try simp only [← labV_eq, ← idV_eq])) | refine wlLC (hm := hm) (hu := by first | exact undByteI | exact undInt | exact undU64) (h := ?_) | (refine wlS (hm := hm) (hv := (by first | rfl | exact idV_eq _ | exact labV_eq _ _ | exact rectV_eq _ _ _ _)) (hi := by (try simp only [rowOf_size, idC_size]); first | exact sizeID | exact sizeLabel) (hs := by first | (simp only [rowOf_size, idC_size]; done) | rfl) (h1 := by first | rfl | exact idC_one _ | exact rowOf_one _ _ (fun _ _ => rfl) | (simp only [List.size_toArray, List.length_cons, List.all_toArray', List.all_cons, List.all_nil, Value.oneCell', Bool.and_true, Bool.and_self]; done) | (simp [Value.oneCell']; done)) (h := ?_); clear hm; intro w1 hm; (try simp only [rowOf_set, k1, k2, k3, Value.cells, Act.eval, k7, k8, k9, kA, Option.getD_some] at hm)) | (refine wlSC (hm := hm) (hi := by first | exact sizeByteI | exact sizeInt | exact sizeU64) (ho := by first | decide | (simp only [rowOf_size, idC_size]; omega) | (simp; done)) (h := ?_); clear hm; intro w1 hm; (try simp only [rowOf_set, k1, k2, k3, Value.cells, Act.eval, k7, k8, k9, kA, Option.getD_some] at hm)) | (refine wlA (hz := by first | exact zeroID | exact zeroLabel) (hm := hm) (h := ?_); clear hm; intro b1 w1 hm; (try simp only [rowOf_set, k1, k2, k3, Value.cells, Act.eval, k7, k8, k9, kA, Option.getD_some] at hm)) | (refine wl_box (by rfl) rfl (by first | exact idV_cells _ | exact labV_cells _ _ | exact rectV_cells _ _ _ _ | rfl) hm ?_; clear hm; intro b1 w1 hm) | (go_at_call 33; refine (hi _).mono ?_; rintro e w1 ⟨rfl, hx⟩; replace hm := hm.call hx; clear hx) | (with_reducible first | refine stBs ?_ | refine stMs ?_ | refine stAp ?_ | refine stCo ?_ | (show wpList _ _ _ (⟨_, .convert 71 9 _, _, _, _, _⟩ :: _) _ _; refine Stop.mk ?_))); (try simp only [k4, k5, k6, Act.put, k1, k2, k3]))
      have hr := HR.out
      have hrs := run_toString (P := Try.prog) undBytesI undByteI undStrI hm (i := 0) (off := 0) (n := k + 1) (cap := cap) rfl F (fun j hj => by rw [Nat.zero_add]; exact hr.2.2.2 j hj)
      clear hr
      refine Stop.go ?_
      go_wp2
      go_ret2
      exact ⟨rfl, hm.ext⟩
theorem lab_step (n b k : Nat) (hk : k < (n + 7) / 8) (hn : n ≤ 64) : b * 256 ^ k % 2 ^ 64 / 2 ^ 56 = labF n b (k + 1) ∧ b * 256 ^ k % 2 ^ 64 * 256 % 2 ^ 64 = b * 256 ^ (k + 1) % 2 ^ 64 := by
  constructor
  · unfold labF
    rw [if_neg (by omega), show (256 : Nat) ^ k = 2 ^ (8 * k) from by rw [show (256 : Nat) = 2 ^ 8 from rfl, ← Nat.pow_mul], show (2 : Nat) ^ 64 = 2 ^ (64 - 8 * k) * 2 ^ (8 * k) from by rw [← Nat.pow_add]; congr 1; omega,
      Nat.mul_mod_mul_right, show (2 : Nat) ^ 56 = 2 ^ (56 - 8 * k) * 2 ^ (8 * k) from by rw [← Nat.pow_add]; congr 1; omega, Nat.mul_div_mul_right _ _ (Nat.pow_pos (by omega)),
      show 64 - 8 * (k + 1) = 56 - 8 * k from by omega, show 64 - 8 * k = 56 - 8 * k + 8 from by omega, Nat.pow_add, Nat.mod_mul_right_div_self]
  · rw [show (256 : Nat) ^ (k + 1) = 256 ^ k * 256 from Nat.pow_succ .., ← Nat.mul_assoc]
    generalize b * 256 ^ k = X
    omega
theorem refLabel_c (n b : Nat) (hn : n ≤ 64) (hb : b < 2 ^ 64) : Says 17 #[labV (n : Int) b] (.string (bytesB ((n + 7) / 8 + 1) (labF n b))) := by
  intro w
  have HS := hid (fun k hk => lab_step n b k hk hn)
  have HM := hid (show ∀ k, (k < (n + 7) / 8 ↔ 8 * k < n) from fun k => by omega)
  have H0 := hid (show (bytesB 1 fun _ => n % 256) = bytesB 1 (labF n b) from bytesB_congr fun j hj => by unfold labF; rw [if_pos (by omega)]; omega)
  have HL := hid (show ∀ k x, labF n b (k + 1) = x → x < 256 → bytesB (k + 1) (labF n b) ++ (bytesB 1 fun _ => x % 256) = bytesB (k + 2) (labF n b) from fun k x hx hlt => by
    rw [bytesB_append]
    refine bytesB_congr fun j hj => ?_
    split
    · rfl
    · rw [show j = k + 1 from by omega, hx]; omega)
  have HZ := hid (show b = b * 256 ^ 0 % 2 ^ 64 from by omega)
  have HFL := hid (show ∀ k, labF n b (k + 1) < 256 from fun k => by unfold labF; rw [if_neg (by omega)]; omega)
  obtain ⟨F, hF⟩ : ∃ F, labF n b = F := ⟨_, rfl⟩
  rw [hF] at HS H0 HL HFL ⊢
  clear hF
  obtain ⟨m, hmm⟩ : ∃ m, (n + 7) / 8 = m := ⟨_, rfl⟩
  rw [hmm] at HS HM ⊢
  have HN := hid (show n ≤ 64 ∧ m ≤ 8 from ⟨hn, by omega⟩)
  have f5 : IntKind.u64.wrap (n : Int) = (n : Int) := wrap_u64 (by omega) (by omega)
  have ho := one_c n (by omega)
  rw [H0.out] at ho
  obtain ⟨A, hA⟩ : ∃ A, bytesB 1 F = A := ⟨_, rfl⟩
  rw [hA] at ho
  have HA0 := hid hA
  clear hmm hn hA H0
  go_enter Try.func17, Try.ntmps17
  have hm := Mem.refl w []
  go_wp2_with (with_reducible first | refine stAl ?_ | refine stBo ?_ | refine stLo ?_ | refine stSo ?_ | refine stBu ?_ | refine stBs ?_ | refine stMs ?_ | refine stAp ?_ | refine stCo ?_ | (show wpList _ _ _ (⟨_, .convert 71 9 _, _, _, _, _⟩ :: _) _ _; refine Stop.mk ?_)); refine Stop.go (wl_box (by rfl) rfl (labV_cells (n : Int) b) hm ?_); clear hm; intro b1 w1 hm; simp only [Act.put, k1, k2, k3]; (try simp only [rowOf_set, k1, k2, k3, Value.cells, Act.eval, k7, k8, k9, kA, Option.getD_some] at hm)
  go_wp2_with ((first | refine wpList_skip (by rfl) ?_ | (refine wlL (hm := hm) (hu := by first | exact undID | exact undLabel) (hi := by (try simp only [rowOf_size, idC_size]); first | exact sizeID | exact sizeLabel) (h := ?_); (try simp only [Act.put, k1, k2, k3]); (try simp only [← labV_eq, ← idV_eq])) | refine wlLC (hm := hm) (hu := by first | exact undByteI | exact undInt | exact undU64) (h := ?_) | (refine wlS (hm := hm) (hv := (by first | rfl | exact idV_eq _ | exact labV_eq _ _ | exact rectV_eq _ _ _ _)) (hi := by (try simp only [rowOf_size, idC_size]); first | exact sizeID | exact sizeLabel) (hs := by first | (simp only [rowOf_size, idC_size]; done) | rfl) (h1 := by first | rfl | exact idC_one _ | exact rowOf_one _ _ (fun _ _ => rfl) | (simp only [List.size_toArray, List.length_cons, List.all_toArray', List.all_cons, List.all_nil, Value.oneCell', Bool.and_true, Bool.and_self]; done) | (simp [Value.oneCell']; done)) (h := ?_); clear hm; intro w1 hm; (try simp only [rowOf_set, k1, k2, k3, Value.cells, Act.eval, k7, k8, k9, kA, Option.getD_some] at hm)) | (refine wlSC (hm := hm) (hi := by first | exact sizeByteI | exact sizeInt | exact sizeU64) (ho := by first | decide | (simp only [rowOf_size, idC_size]; omega) | (simp; done)) (h := ?_); clear hm; intro w1 hm; (try simp only [rowOf_set, k1, k2, k3, Value.cells, Act.eval, k7, k8, k9, kA, Option.getD_some] at hm)) | (refine wlA (hz := by first | exact zeroID | exact zeroLabel) (hm := hm) (h := ?_); clear hm; intro b1 w1 hm; (try simp only [rowOf_set, k1, k2, k3, Value.cells, Act.eval, k7, k8, k9, kA, Option.getD_some] at hm)) | (refine wl_box (by rfl) rfl (by first | exact idV_cells _ | exact labV_cells _ _ | exact rectV_cells _ _ _ _ | rfl) hm ?_; clear hm; intro b1 w1 hm) | (go_at_call 46; refine (ho _).mono ?_; rintro e w1 ⟨rfl, hx⟩; replace hm := hm.call hx; clear hx) | (with_reducible first | refine stBs ?_ | refine stMs ?_ | refine stAp ?_ | refine stCo ?_ | (show wpList _ _ _ (⟨_, .convert 71 9 _, _, _, _, _⟩ :: _) _ _; refine Stop.mk ?_))); (try simp only [k4, k5, k6, Act.put, k1, k2, k3]))
  clear ho
  go_loopw [3, 4, 5] (fun vo vv vn wr => ∃ (k x at' : Nat), k ≤ m ∧ 8 * k = at' ∧ Hid (b * 256 ^ k % 2 ^ 64 = x) ∧ vn = .int .i64 (at' : Int) ∧ vv = .int .u64 (x : Int) ∧ vo = .string (bytesB (k + 1) F) ∧ Mem w [] [(b1, .cells #[.int .i64 (n : Int), .int .u64 (b : Int)] 26 (0, 0))] wr)
    (fun _ _ vn _ => (100 - intOf vn).toNat)
  case atStart => exact ⟨0, b, 0, by omega, rfl, hid HZ.out.symm, rfl, rfl, by rw [HA0.out], hm⟩
  case round =>
    clear hm
    obtain ⟨k, x, at', hk, hat, HX, rfl, rfl, rfl, hm⟩ := hrel
    by_cases hkm : k < m
    · have hlt : at' < n := by have := (HM.out k).1 hkm; omega
      have hl2 : (at' : Int) < (n : Int) := by omega
      have hn8 := HN.out
      obtain ⟨e1, e2⟩ := HS.out k hkm
      rw [HX.out] at e1 e2
      have hx64 : x < 2 ^ 64 := by rw [← HX.out]; exact Nat.mod_lt _ (by decide)
      obtain ⟨y, hy⟩ : ∃ y, x / 2 ^ 56 = y := ⟨_, rfl⟩
      rw [hy] at e1
      have hy8 : y < 256 := by rw [e1]; exact HFL.out k
      obtain ⟨x', hx'⟩ : ∃ x', x * 256 % 2 ^ 64 = x' := ⟨_, rfl⟩
      have hpush := HL.out k y e1.symm hy8
      have ho := one_c y (by omega)
      have hs1 := bytesB_size (k + 1) F
      have hs2 := bytesB_size 1 (fun _ => y % 256)
      have g2 : (x : Int) / 72057594037927936 = (y : Int) := by rw [← hy]; omega
      have g3 : IntKind.u64.wrap ((x : Int) * 256) = (x' : Int) := by
        rw [show (x : Int) * 256 = ((x * 256 : Nat) : Int) from by push_cast; rfl, ← hx']
        simp only [IntKind.wrap, IntKind.signed, IntKind.bits]
        simp
      have g4 : IntKind.i64.wrap ((at' : Int) + 8) = (at' : Int) + 8 := wrap_i64 (by omega) (by omega)
      have hs3 : ¬ 9223372036854775807 < k + 1 + 1 := by omega
      obtain ⟨B, hB⟩ : ∃ B, bytesB (k + 1) F = B := ⟨_, rfl⟩
      obtain ⟨C, hC'⟩ : ∃ C, (bytesB 1 fun _ => y % 256) = C := ⟨_, rfl⟩
      rw [hB] at hpush hs1 ⊢
      rw [hC'] at hpush hs2 ho
      have HU := hid hpush
      have HX2 := hid (show b * 256 ^ (k + 1) % 2 ^ 64 = x' from by rw [← e2, hx'])
      have HA := hid (show 8 * (k + 1) = at' + 8 ∧ k < m ∧ at' < 64 from ⟨by omega, hkm, by omega⟩)
      clear hB hC' hpush hx' hy8 hy e1 e2 hx64 hn8 hk hat hkm HX
      go_wp2_with ((first | refine wpList_skip (by rfl) ?_ | (refine wlL (hm := hm) (hu := by first | exact undID | exact undLabel) (hi := by (try simp only [rowOf_size, idC_size]); first | exact sizeID | exact sizeLabel) (h := ?_); (try simp only [Act.put, k1, k2, k3]); (try simp only [← labV_eq, ← idV_eq])) | refine wlLC (hm := hm) (hu := by first | exact undByteI | exact undInt | exact undU64) (h := ?_) | (refine wlS (hm := hm) (hv := (by first | rfl | exact idV_eq _ | exact labV_eq _ _ | exact rectV_eq _ _ _ _)) (hi := by (try simp only [rowOf_size, idC_size]); first | exact sizeID | exact sizeLabel) (hs := by first | (simp only [rowOf_size, idC_size]; done) | rfl) (h1 := by first | rfl | exact idC_one _ | exact rowOf_one _ _ (fun _ _ => rfl) | (simp only [List.size_toArray, List.length_cons, List.all_toArray', List.all_cons, List.all_nil, Value.oneCell', Bool.and_true, Bool.and_self]; done) | (simp [Value.oneCell']; done)) (h := ?_); clear hm; intro w1 hm; (try simp only [rowOf_set, k1, k2, k3, Value.cells, Act.eval, k7, k8, k9, kA, Option.getD_some] at hm)) | (refine wlSC (hm := hm) (hi := by first | exact sizeByteI | exact sizeInt | exact sizeU64) (ho := by first | decide | (simp only [rowOf_size, idC_size]; omega) | (simp; done)) (h := ?_); clear hm; intro w1 hm; (try simp only [rowOf_set, k1, k2, k3, Value.cells, Act.eval, k7, k8, k9, kA, Option.getD_some] at hm)) | (refine wlA (hz := by first | exact zeroID | exact zeroLabel) (hm := hm) (h := ?_); clear hm; intro b1 w1 hm; (try simp only [rowOf_set, k1, k2, k3, Value.cells, Act.eval, k7, k8, k9, kA, Option.getD_some] at hm)) | (refine wl_box (by rfl) rfl (by first | exact idV_cells _ | exact labV_cells _ _ | exact rectV_cells _ _ _ _ | rfl) hm ?_; clear hm; intro b1 w1 hm) | (go_at_call 46; refine (ho _).mono ?_; rintro e w1 ⟨rfl, hx⟩; replace hm := hm.call hx; clear hx) | (with_reducible first | refine stBs ?_ | refine stMs ?_ | refine stAp ?_ | refine stCo ?_ | (show wpList _ _ _ (⟨_, .convert 71 9 _, _, _, _, _⟩ :: _) _ _; refine Stop.mk ?_))); (try simp only [k4, k5, k6, Act.put, k1, k2, k3]))
      go_roundw
      case rel => exact ⟨k + 1, x', at' + 8, by have := HA.out; omega, HA.out.1, HX2, by go_num, rfl, by rw [HU.out], hm⟩
      case measure => (have := HA.out; simp [intOf]; try omega)
    · obtain rfl : k = m := by omega
      have hlt : ¬ at' < n := by have := (HM.out k).2; omega
      clear hk hat hkm
      go_wp2_with ((first | refine wpList_skip (by rfl) ?_ | (refine wlL (hm := hm) (hu := by first | exact undID | exact undLabel) (hi := by (try simp only [rowOf_size, idC_size]); first | exact sizeID | exact sizeLabel) (h := ?_); (try simp only [Act.put, k1, k2, k3]); (try simp only [← labV_eq, ← idV_eq])) | refine wlLC (hm := hm) (hu := by first | exact undByteI | exact undInt | exact undU64) (h := ?_) | (refine wlS (hm := hm) (hv := (by first | rfl | exact idV_eq _ | exact labV_eq _ _ | exact rectV_eq _ _ _ _)) (hi := by (try simp only [rowOf_size, idC_size]); first | exact sizeID | exact sizeLabel) (hs := by first | (simp only [rowOf_size, idC_size]; done) | rfl) (h1 := by first | rfl | exact idC_one _ | exact rowOf_one _ _ (fun _ _ => rfl) | (simp only [List.size_toArray, List.length_cons, List.all_toArray', List.all_cons, List.all_nil, Value.oneCell', Bool.and_true, Bool.and_self]; done) | (simp [Value.oneCell']; done)) (h := ?_); clear hm; intro w1 hm; (try simp only [rowOf_set, k1, k2, k3, Value.cells, Act.eval, k7, k8, k9, kA, Option.getD_some] at hm)) | (refine wlSC (hm := hm) (hi := by first | exact sizeByteI | exact sizeInt | exact sizeU64) (ho := by first | decide | (simp only [rowOf_size, idC_size]; omega) | (simp; done)) (h := ?_); clear hm; intro w1 hm; (try simp only [rowOf_set, k1, k2, k3, Value.cells, Act.eval, k7, k8, k9, kA, Option.getD_some] at hm)) | (refine wlA (hz := by first | exact zeroID | exact zeroLabel) (hm := hm) (h := ?_); clear hm; intro b1 w1 hm; (try simp only [rowOf_set, k1, k2, k3, Value.cells, Act.eval, k7, k8, k9, kA, Option.getD_some] at hm)) | (refine wl_box (by rfl) rfl (by first | exact idV_cells _ | exact labV_cells _ _ | exact rectV_cells _ _ _ _ | rfl) hm ?_; clear hm; intro b1 w1 hm) | (go_at_call 46; refine (ho _).mono ?_; rintro e w1 ⟨rfl, hx⟩; replace hm := hm.call hx; clear hx) | (with_reducible first | refine stBs ?_ | refine stMs ?_ | refine stAp ?_ | refine stCo ?_ | (show wpList _ _ _ (⟨_, .convert 71 9 _, _, _, _, _⟩ :: _) _ _; refine Stop.mk ?_))); (try simp only [k4, k5, k6, Act.put, k1, k2, k3]))
      go_ret
      exact ⟨rfl, hm.ext⟩
end Go.Proofs.Ytijkmbebfodhdaa
