/-
  Wire: a number's bytes.
-/
import Derived.Test.YtijkmbebfodhdaaWirL
import Derived.Test.YtijkmbebfodhdaaShaI
namespace Go.Proofs.Ytijkmbebfodhdaa
open Go.RowKit
set_option linter.unusedSimpArgs false
set_option linter.unusedVariables false
set_option maxHeartbeats 1000000
set_option maxRecDepth 20000
attribute [local irreducible] wpQuiet wpList wpAnyH Calls

/-- A row that begins with n of F's bytes. -/
def RowB (F : Nat → Nat) (n cap : Nat) (cur : Array Value) : Prop := n ≤ cap ∧ cap < 2 ^ 63 ∧ cur.size = cap ∧ ∀ j, j < n → cur[j]? = some (.int .u8 ((F j : Nat) : Int))
theorem rowB_push {F : Nat → Nat} {n cap cap' : Nat} {cur cur' : Array Value} (h : RowB F n cap cur) (p1 : n + 1 ≤ cap') (p2 : cap < 2 ^ 63 → cap' < 2 ^ 63) (p3 : cur'.size = cap' * 1) (p4 : ∀ j, j < n * 1 → cur'[j]? = cur[j]?) (p5 : cur'[n * 1 + 0]? = some (.int .u8 ((F n : Nat) : Int))) : RowB F (n + 1) cap' cur' := by
  refine ⟨p1, p2 h.2.1, by omega, fun j hj => ?_⟩
  by_cases hjn : j < n
  · rw [p4 j (by omega)]; exact h.2.2.2 j hjn
  · obtain rfl : j = n := by omega
    simpa using p5
theorem wrap_byte (x : Nat) : IntKind.u8.wrap (x : Int) = ((x % 256 : Nat) : Int) := by
  simp only [IntKind.wrap, IntKind.signed, IntKind.bits]
  simp
  try omega
/-- The bytes that a number is put as: how many, and each. -/
def numF (v j : Nat) : Nat := if j = 0 then nB v else v / 256 ^ (nB v - j) % 256
theorem numF_lt (v j : Nat) (hv : v < 2 ^ 64) : numF v j < 256 := by
  unfold numF
  split
  · have := nB_8 v hv; omega
  · omega
/-- A slice of just those bytes. -/
def BytesIn (F : Nat → Nat) (n : Nat) (w : World) (e : Ending) (w' : World) : Prop := ∃ g cap cur, e = .returned (.slice (some ⟨g, 0, none⟩) n n) ∧ RowB F n cap cur ∧ Mem w [] [(g, .cells cur 5 (0, 0))] w'
theorem wireNumber_c (v : Nat) (hv : v < 2 ^ 64) (w : World) : Calls Try.prog 47 #[.int .u64 (v : Int)] w (BytesIn (numF v) (nB v + 1) w) := by
  have hl := len64_c v hv
  have hLn := nB_bl v
  have hn8 := nB_8 v hv
  have hb64 : bl v ≤ 64 := by
    unfold bl
    split
    · omega
    · next h0 => have := (Nat.log2_lt h0).2 hv; omega
  have HF := hid (show ∀ t i, i + 1 + t = nB v → numF v (t + 1) = v / 2 ^ (8 * i) % 256 from fun t i h => by
    unfold numF
    rw [if_neg (by omega), show (256 : Nat) = 2 ^ 8 from rfl, ← Nat.pow_mul, show nB v - (t + 1) = i from by omega])
  have HF0 := hid (show numF v 0 = nB v from by unfold numF; rfl)
  obtain ⟨F, hF⟩ : ∃ F, numF v = F := ⟨_, rfl⟩
  rw [hF] at HF HF0 ⊢
  clear hF
  obtain ⟨n, hn⟩ : ∃ n, nB v = n := ⟨_, rfl⟩
  rw [hn] at hLn hn8 HF HF0 ⊢
  obtain ⟨L, hL⟩ : ∃ L, bl v = L := ⟨_, rfl⟩
  rw [hL] at hl hLn hb64
  obtain ⟨L8, hL8⟩ : ∃ x, L + 8 = x := ⟨_, rfl⟩
  obtain ⟨L7, hL7⟩ : ∃ x, L + 7 = x := ⟨_, rfl⟩
  obtain ⟨m, hm1⟩ : ∃ m, n + 1 = m := ⟨_, rfl⟩
  have f1 : IntKind.i64.wrap ((L : Int) + 8) = (L8 : Int) := by rw [wrap_i64 (by omega) (by omega)]; omega
  have f2 : IntKind.i64.wrap ((L8 : Int) - 1) = (L7 : Int) := by rw [wrap_i64 (by omega) (by omega)]; omega
  have f3 : (L7 : Int) / 8 = (n : Int) := by omega
  have f3' : (L7 : Int).tdiv 8 = (n : Int) := by rw [Int.tdiv_eq_ediv_of_nonneg (by omega)]; exact f3
  have f4 : IntKind.i64.wrap (n : Int) = (n : Int) := wrap_i64 (by omega) (by omega)
  have f5 : IntKind.u8.wrap (n : Int) = (n : Int) := wrap_u8 (by omega) (by omega)
  have f6 : IntKind.i64.wrap ((n : Int) - 1) = (n : Int) - 1 := wrap_i64 (by omega) (by omega)
  have f7 : IntKind.i64.wrap (1 + (n : Int)) = (m : Int) := by rw [wrap_i64 (by omega) (by omega)]; omega
  have HN := hid hn8
  have HV := hid hv
  have HM := hid hm1
  clear hn hL hLn hb64 hL8 hL7 hn8 hm1 hv
  go_enter Try.func47, Try.ntmps47
  have hm := Mem.refl w []
  go_wp2_with ((first | refine wpList_skip (by rfl) ?_ | (refine wlL (hm := hm) (hu := by first | exact undID) (hi := by (try simp only [rowOf_size]); first | exact sizeID) (h := ?_); (try simp only [Act.put, k1, k2, k3]); (try simp only [← idV_eq])) | (refine wlS (hm := hm) (hv := (by first | rfl | exact idV_eq _ | exact labV_eq _ _ | exact rectV_eq _ _ _ _)) (hi := by (try simp only [rowOf_size]); first | exact sizeID) (hs := by first | (simp only [rowOf_size]; done) | rfl) (h := ?_); clear hm; intro w1 hm; (try simp only [rowOf_set, k1, k2, k3, Value.cells, Act.eval, k7, k8, k9, kA, Option.getD_some] at hm)) | (refine wlA (hz := by first | exact zeroID) (hm := hm) (h := ?_); clear hm; intro b1 w1 hm; (try simp only [rowOf_set, k1, k2, k3, Value.cells, Act.eval, k7, k8, k9, kA, Option.getD_some] at hm)) | (refine wl_box (by rfl) rfl (by first | exact idV_cells _ | exact labV_cells _ _ | exact rectV_cells _ _ _ _ | rfl) hm ?_; clear hm; intro b1 w1 hm) | (go_at_call 83; refine (hl _).mono ?_; rintro e w1 ⟨rfl, hx⟩; replace hm := hm.call hx; clear hx) | (with_reducible first | refine stBs ?_ | refine stMs ?_ | refine stAp ?_ | refine stCo ?_ | (show wpList _ _ _ (⟨_, .convert 71 9 _, _, _, _, _⟩ :: _) _ _; refine Stop.mk ?_))); (try simp only [k4, k5, k6, Act.put, k1, k2, k3]))
  refine Stop.go (wl_buildSlice (ps := [(0, .int .u8 (n : Int))]) (cells := #[.int .u8 (n : Int)]) (by rfl) hm elByteI (by decide) (by decide) (by simp [Act.eval]) (fill_one _ _ rfl) ?_)
  clear hm; intro g0 w5 hm; simp only [Act.put, k1, k2, k3]
  go_wp2_with ((first | refine wpList_skip (by rfl) ?_ | (refine wlL (hm := hm) (hu := by first | exact undID) (hi := by (try simp only [rowOf_size]); first | exact sizeID) (h := ?_); (try simp only [Act.put, k1, k2, k3]); (try simp only [← idV_eq])) | (refine wlS (hm := hm) (hv := (by first | rfl | exact idV_eq _ | exact labV_eq _ _ | exact rectV_eq _ _ _ _)) (hi := by (try simp only [rowOf_size]); first | exact sizeID) (hs := by first | (simp only [rowOf_size]; done) | rfl) (h := ?_); clear hm; intro w1 hm; (try simp only [rowOf_set, k1, k2, k3, Value.cells, Act.eval, k7, k8, k9, kA, Option.getD_some] at hm)) | (refine wlA (hz := by first | exact zeroID) (hm := hm) (h := ?_); clear hm; intro b1 w1 hm; (try simp only [rowOf_set, k1, k2, k3, Value.cells, Act.eval, k7, k8, k9, kA, Option.getD_some] at hm)) | (refine wl_box (by rfl) rfl (by first | exact idV_cells _ | exact labV_cells _ _ | exact rectV_cells _ _ _ _ | rfl) hm ?_; clear hm; intro b1 w1 hm) | (go_at_call 83; refine (hl _).mono ?_; rintro e w1 ⟨rfl, hx⟩; replace hm := hm.call hx; clear hx) | (with_reducible first | refine stBs ?_ | refine stMs ?_ | refine stAp ?_ | refine stCo ?_ | (show wpList _ _ _ (⟨_, .convert 71 9 _, _, _, _, _⟩ :: _) _ _; refine Stop.mk ?_))); (try simp only [k4, k5, k6, Act.put, k1, k2, k3]))
  have hr0 : RowB F 1 1 #[.int .u8 (n : Int)] := ⟨by omega, by omega, rfl, fun j hj => by rw [show j = 0 from by omega, HF0.out]; rfl⟩
  go_loopw [4, 5] (fun vs vi wr => ∃ (t g cap : Nat) (cur : Array Value), t ≤ n ∧ vi = .int .i64 ((n : Int) - 1 - (t : Int)) ∧ vs = .slice (some ⟨g, 0, none⟩) (t + 1) cap ∧ Hid (RowB F (t + 1) cap cur) ∧ Mem w [] [(g, .cells cur 5 (0, 0))] wr)
    (fun _ vi _ => (intOf vi + 1).toNat)
  case atStart => exact ⟨0, g0, 1, _, by omega, by simp, rfl, hid hr0, hm⟩
  case round =>
    clear hm hr0
    obtain ⟨t, g, cap, cur, ht, rfl, rfl, HR, hm⟩ := hrel
    by_cases htn : t < n
    · obtain ⟨i, hi⟩ : ∃ i : Nat, i + 1 + t = n := ⟨n - 1 - t, by omega⟩
      have hx : (n : Int) - 1 - (t : Int) = (i : Int) := by omega
      have hfb := HF.out t i hi
      have hn8 := HN.out
      obtain ⟨s, hs⟩ : ∃ s, 8 * i = s := ⟨_, rfl⟩
      rw [hs] at hfb
      obtain ⟨p, hp⟩ : ∃ p, v / 2 ^ s = p := ⟨_, rfl⟩
      rw [hp] at hfb
      obtain ⟨r, hr⟩ : ∃ r, p % 256 = r := ⟨_, rfl⟩
      rw [hr] at hfb
      have g1 : IntKind.i64.wrap (8 * (i : Int)) = (s : Int) := by rw [wrap_i64 (by omega) (by omega)]; omega
      have g2 : (v : Int) / 2 ^ s = (p : Int) := by rw [← hp]; push_cast; rfl
      have g3 : IntKind.u8.wrap (p : Int) = (r : Int) := by rw [wrap_byte, hr]
      have g4 : IntKind.i64.wrap ((i : Int) - 1) = (i : Int) - 1 := wrap_i64 (by omega) (by omega)
      have z0 : (0 : Int) ≤ (s : Int) := by omega
      have z1 : (s : Int) ≤ 64 := by omega
      have z2 : (0 : Int) ≤ (i : Int) := by omega
      have HB := hid hfb
      have HI := hid hi
      rw [hx]
      clear hfb hs hp hr hx hi hn8 ht htn
      go_wp2_with ((first | refine wpList_skip (by rfl) ?_ | (refine wlL (hm := hm) (hu := by first | exact undID) (hi := by (try simp only [rowOf_size]); first | exact sizeID) (h := ?_); (try simp only [Act.put, k1, k2, k3]); (try simp only [← idV_eq])) | (refine wlS (hm := hm) (hv := (by first | rfl | exact idV_eq _ | exact labV_eq _ _ | exact rectV_eq _ _ _ _)) (hi := by (try simp only [rowOf_size]); first | exact sizeID) (hs := by first | (simp only [rowOf_size]; done) | rfl) (h := ?_); clear hm; intro w1 hm; (try simp only [rowOf_set, k1, k2, k3, Value.cells, Act.eval, k7, k8, k9, kA, Option.getD_some] at hm)) | (refine wlA (hz := by first | exact zeroID) (hm := hm) (h := ?_); clear hm; intro b1 w1 hm; (try simp only [rowOf_set, k1, k2, k3, Value.cells, Act.eval, k7, k8, k9, kA, Option.getD_some] at hm)) | (refine wl_box (by rfl) rfl (by first | exact idV_cells _ | exact labV_cells _ _ | exact rectV_cells _ _ _ _ | rfl) hm ?_; clear hm; intro b1 w1 hm) | (go_at_call 83; refine (hl _).mono ?_; rintro e w1 ⟨rfl, hx⟩; replace hm := hm.call hx; clear hx) | (with_reducible first | refine stBs ?_ | refine stMs ?_ | refine stAp ?_ | refine stCo ?_ | (show wpList _ _ _ (⟨_, .convert 71 9 _, _, _, _, _⟩ :: _) _ _; refine Stop.mk ?_))); (try simp only [k4, k5, k6, Act.put, k1, k2, k3]))
      refine Stop.go (wl_buildSlice (ps := [(0, .int .u8 (r : Int))]) (cells := #[.int .u8 (r : Int)]) (by rfl) hm elByteI (by decide) (by decide) (by simp [Act.eval]) (fill_one _ _ rfl) ?_)
      clear hm; intro gn w6 hm; simp only [Act.put, k1, k2, k3]
      go_wp2_with ((first | refine wpList_skip (by rfl) ?_ | (refine wlL (hm := hm) (hu := by first | exact undID) (hi := by (try simp only [rowOf_size]); first | exact sizeID) (h := ?_); (try simp only [Act.put, k1, k2, k3]); (try simp only [← idV_eq])) | (refine wlS (hm := hm) (hv := (by first | rfl | exact idV_eq _ | exact labV_eq _ _ | exact rectV_eq _ _ _ _)) (hi := by (try simp only [rowOf_size]); first | exact sizeID) (hs := by first | (simp only [rowOf_size]; done) | rfl) (h := ?_); clear hm; intro w1 hm; (try simp only [rowOf_set, k1, k2, k3, Value.cells, Act.eval, k7, k8, k9, kA, Option.getD_some] at hm)) | (refine wlA (hz := by first | exact zeroID) (hm := hm) (h := ?_); clear hm; intro b1 w1 hm; (try simp only [rowOf_set, k1, k2, k3, Value.cells, Act.eval, k7, k8, k9, kA, Option.getD_some] at hm)) | (refine wl_box (by rfl) rfl (by first | exact idV_cells _ | exact labV_cells _ _ | exact rectV_cells _ _ _ _ | rfl) hm ?_; clear hm; intro b1 w1 hm) | (go_at_call 83; refine (hl _).mono ?_; rintro e w1 ⟨rfl, hx⟩; replace hm := hm.call hx; clear hx) | (with_reducible first | refine stBs ?_ | refine stMs ?_ | refine stAp ?_ | refine stCo ?_ | (show wpList _ _ _ (⟨_, .convert 71 9 _, _, _, _, _⟩ :: _) _ _; refine Stop.mk ?_))); (try simp only [k4, k5, k6, Act.put, k1, k2, k3]))
      have hnw := news_of (i := 0) hm rfl
      have hn8 := HN.out
      have hi := HI.out
      refine Stop.go (wl_op (by rfl) fun K hK => ow_append (i := 1) (n := t + 1) (m := 1) (c := 1) (news := [.int .u8 (r : Int)]) (ad := ⟨gn, 0, none⟩) (sz := 1) (cur := cur) (g := g) hm elByteI ?h1 ?h2 ?h3 ?h4 HR.out.1 ?h5 ?h6 hnw ?h7 ?h8 ?h9 ?h10)
      case h1 => rfl
      case h2 => rfl
      case h3 => rfl
      case h4 => rfl
      case h5 => have := HR.out.2.2.1; omega
      case h6 => rfl
      case h7 => simp [Value.oneCell']
      case h8 => omega
      case h9 => omega
      clear hn8 hi
      intro g' cap' cur' w7 hm' p1 p2 p3 p4 p5 p6; clear hm; have hm := hm'; clear hm'; refine hK _ _ ?_; clear hK K; simp only [Act.put, k1, k2, k3]
      have HP := hid (rowB_push HR.out p1 p2 p3 p4 (by rw [p5 0 (by omega), HB.out]; rfl))
      clear p1 p2 p3 p4 p5 p6
      go_wp2_with ((first | refine wpList_skip (by rfl) ?_ | (refine wlL (hm := hm) (hu := by first | exact undID) (hi := by (try simp only [rowOf_size]); first | exact sizeID) (h := ?_); (try simp only [Act.put, k1, k2, k3]); (try simp only [← idV_eq])) | (refine wlS (hm := hm) (hv := (by first | rfl | exact idV_eq _ | exact labV_eq _ _ | exact rectV_eq _ _ _ _)) (hi := by (try simp only [rowOf_size]); first | exact sizeID) (hs := by first | (simp only [rowOf_size]; done) | rfl) (h := ?_); clear hm; intro w1 hm; (try simp only [rowOf_set, k1, k2, k3, Value.cells, Act.eval, k7, k8, k9, kA, Option.getD_some] at hm)) | (refine wlA (hz := by first | exact zeroID) (hm := hm) (h := ?_); clear hm; intro b1 w1 hm; (try simp only [rowOf_set, k1, k2, k3, Value.cells, Act.eval, k7, k8, k9, kA, Option.getD_some] at hm)) | (refine wl_box (by rfl) rfl (by first | exact idV_cells _ | exact labV_cells _ _ | exact rectV_cells _ _ _ _ | rfl) hm ?_; clear hm; intro b1 w1 hm) | (go_at_call 83; refine (hl _).mono ?_; rintro e w1 ⟨rfl, hx⟩; replace hm := hm.call hx; clear hx) | (with_reducible first | refine stBs ?_ | refine stMs ?_ | refine stAp ?_ | refine stCo ?_ | (show wpList _ _ _ (⟨_, .convert 71 9 _, _, _, _, _⟩ :: _) _ _; refine Stop.mk ?_))); (try simp only [k4, k5, k6, Act.put, k1, k2, k3]))
      go_roundw
      case rel => exact ⟨t + 1, g', cap', cur', by have := HI.out; omega, by have := HI.out; congr 1; omega, rfl, HP, hm.tail⟩
      case measure => (have := HI.out; simp [intOf]; try omega)
    · obtain rfl : t = n := by omega
      have hx : (t : Int) - 1 - (t : Int) = -1 := by omega
      have c1 : m ≤ cap := by have := HR.out.1; have := HM.out; omega
      have c2 : (m : Int) ≤ (cap : Int) := by omega
      have c3 : (0 : Int) ≤ (m : Int) := by omega
      rw [hx]
      clear hx ht htn
      go_wp2_with ((first | refine wpList_skip (by rfl) ?_ | (refine wlL (hm := hm) (hu := by first | exact undID) (hi := by (try simp only [rowOf_size]); first | exact sizeID) (h := ?_); (try simp only [Act.put, k1, k2, k3]); (try simp only [← idV_eq])) | (refine wlS (hm := hm) (hv := (by first | rfl | exact idV_eq _ | exact labV_eq _ _ | exact rectV_eq _ _ _ _)) (hi := by (try simp only [rowOf_size]); first | exact sizeID) (hs := by first | (simp only [rowOf_size]; done) | rfl) (h := ?_); clear hm; intro w1 hm; (try simp only [rowOf_set, k1, k2, k3, Value.cells, Act.eval, k7, k8, k9, kA, Option.getD_some] at hm)) | (refine wlA (hz := by first | exact zeroID) (hm := hm) (h := ?_); clear hm; intro b1 w1 hm; (try simp only [rowOf_set, k1, k2, k3, Value.cells, Act.eval, k7, k8, k9, kA, Option.getD_some] at hm)) | (refine wl_box (by rfl) rfl (by first | exact idV_cells _ | exact labV_cells _ _ | exact rectV_cells _ _ _ _ | rfl) hm ?_; clear hm; intro b1 w1 hm) | (go_at_call 83; refine (hl _).mono ?_; rintro e w1 ⟨rfl, hx⟩; replace hm := hm.call hx; clear hx) | (with_reducible first | refine stBs ?_ | refine stMs ?_ | refine stAp ?_ | refine stCo ?_ | (show wpList _ _ _ (⟨_, .convert 71 9 _, _, _, _, _⟩ :: _) _ _; refine Stop.mk ?_))); (try simp only [k4, k5, k6, Act.put, k1, k2, k3]))
      go_ret
      have := HM.out
      subst this
      exact ⟨g, cap, cur, rfl, HR.out, hm⟩
end Go.Proofs.Ytijkmbebfodhdaa
