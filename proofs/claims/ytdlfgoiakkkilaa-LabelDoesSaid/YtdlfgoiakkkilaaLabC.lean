/-
  Labels, continued: Parse of a text of noughts and ones behind a stroke.
-/
import Derived.Test.YtdlfgoiakkkilaaMem6
import Derived.Test.YtdlfgoiakkkilaaLabB
import Derived.Test.YtdlfgoiakkkilaaMem5
namespace Go.Proofs.Ytdlfgoiakkkilaa
open Go.RowKit
set_option linter.unusedSimpArgs false
set_option linter.unusedVariables false
set_option maxHeartbeats 400000
set_option maxRecDepth 20000
attribute [local irreducible] wpQuiet wpList wpAnyH Calls

theorem undString : Try.prog.underlying 9 = some .string := by kernel_rfl
theorem built_len (x : Int) : Try.prog.built 24 [(0, .int .i64 x)] = some #[.int .i64 x, .int .u64 0] := by kernel_rfl

theorem hasPrefix_c (s : ByteArray) (hs : s.extract 0 1 = { data := #[47] }) (h1 : (1 : Int) ≤ (s.size : Int)) (w : World) :
    Calls Try.prog 84 #[.string s, .string { data := #[47] }] w fun e w' => e = .returned (.bool true) ∧ Ext w w' := by
  have s1 : ∀ w, (Instr.slice 9 (.string s) none (some (.int .i64 1)) none).run Try.prog w = .ok (.string { data := #[47] }) w := fun w => by
    rw [run_slice_string_to_if _ _ _ _ _ undString, if_pos ⟨by decide, h1⟩, show (1 : Int).toNat = 1 from rfl, hs]
  go_enter Try.func84, Try.ntmps84
  have hm := Mem.refl w []
  go_wp2_with ((first | refine wpList_skip (by rfl) ?_ | (refine wlL (hm := hm) (hu := by first | exact undLabel) (hi := by (try simp only [rowOf_size]); first | exact sizeLabel) (h := ?_); (try simp only [Act.put, k1, k2, k3]); (try simp only [← labV_eq])) | refine wlLC (hm := hm) (hu := by first | exact undInt | exact undU64) (h := ?_) | (refine wlS (hm := hm) (hv := (by first | rfl | exact idV_eq _ | exact labV_eq _ _ | exact rectV_eq _ _ _ _)) (hi := by (try simp only [rowOf_size]); first | exact sizeLabel) (hs := by first | (simp only [rowOf_size]; done) | rfl) (h := ?_); clear hm; intro w1 hm; (try simp only [rowOf_set, k1, k2, k3, Value.cells, Act.eval, k7, k8, k9, kA, Option.getD_some] at hm)) | (refine wlSC (hm := hm) (hi := by first | exact sizeInt | exact sizeU64) (ho := by first | decide | (simp only [rowOf_size]; omega) | (simp; done)) (h := ?_); clear hm; intro w1 hm; (try simp only [rowOf_set, k1, k2, k3, Value.cells, Act.eval, k7, k8, k9, kA, Option.getD_some] at hm)) | (refine wlA (hz := by first | exact zeroLabel) (hm := hm) (h := ?_); clear hm; intro b1 w1 hm; (try simp only [rowOf_set, k1, k2, k3, Value.cells, Act.eval, k7, k8, k9, kA, Option.getD_some] at hm)) | (refine wl_box (by rfl) rfl (by first | exact idV_cells _ | exact labV_cells _ _ | exact rectV_cells _ _ _ _ | rfl) hm ?_; clear hm; intro b1 w1 hm) | (refine wl_build (by rfl) (built_zeroL) rfl ?_; (try simp only [Act.put, k1, k2, k3]); (try simp only [← labV_eq])) | (refine wl_build (by rfl) (built_len _) rfl ?_; (try simp only [Act.put, k1, k2, k3]); (try simp only [← labV_eq]))); (try simp only [k4, k5, k6, Act.put, k1, k2, k3]))
  go_ret
  exact ⟨rfl, hm.ext⟩

theorem cutPrefix_c (s t : ByteArray) (hs : s.extract 0 1 = { data := #[47] }) (ht : s.extract 1 s.size = t) (h1 : (1 : Int) ≤ (s.size : Int)) (w : World) :
    Calls Try.prog 74 #[.string s, .string { data := #[47] }] w fun e w' => e = .returned (.tuple #[.string t, .bool true]) ∧ Ext w w' := by
  have s1 : ∀ w, (Instr.slice 9 (.string s) (some (.int .i64 1)) none none).run Try.prog w = .ok (.string t) w := fun w => by
    rw [run_slice_string_from_if _ _ _ _ _ undString, if_pos ⟨by decide, h1⟩, show (1 : Int).toNat = 1 from rfl, ht]
  go_enter Try.func74, Try.ntmps74
  have hm := Mem.refl w []
  go_wp2_with ((first | refine wpList_skip (by rfl) ?_ | (refine wlL (hm := hm) (hu := by first | exact undLabel) (hi := by (try simp only [rowOf_size]); first | exact sizeLabel) (h := ?_); (try simp only [Act.put, k1, k2, k3]); (try simp only [← labV_eq])) | refine wlLC (hm := hm) (hu := by first | exact undInt | exact undU64) (h := ?_) | (refine wlS (hm := hm) (hv := (by first | rfl | exact idV_eq _ | exact labV_eq _ _ | exact rectV_eq _ _ _ _)) (hi := by (try simp only [rowOf_size]); first | exact sizeLabel) (hs := by first | (simp only [rowOf_size]; done) | rfl) (h := ?_); clear hm; intro w1 hm; (try simp only [rowOf_set, k1, k2, k3, Value.cells, Act.eval, k7, k8, k9, kA, Option.getD_some] at hm)) | (refine wlSC (hm := hm) (hi := by first | exact sizeInt | exact sizeU64) (ho := by first | decide | (simp only [rowOf_size]; omega) | (simp; done)) (h := ?_); clear hm; intro w1 hm; (try simp only [rowOf_set, k1, k2, k3, Value.cells, Act.eval, k7, k8, k9, kA, Option.getD_some] at hm)) | (refine wlA (hz := by first | exact zeroLabel) (hm := hm) (h := ?_); clear hm; intro b1 w1 hm; (try simp only [rowOf_set, k1, k2, k3, Value.cells, Act.eval, k7, k8, k9, kA, Option.getD_some] at hm)) | (refine wl_box (by rfl) rfl (by first | exact idV_cells _ | exact labV_cells _ _ | exact rectV_cells _ _ _ _ | rfl) hm ?_; clear hm; intro b1 w1 hm) | (refine wl_build (by rfl) (built_zeroL) rfl ?_; (try simp only [Act.put, k1, k2, k3]); (try simp only [← labV_eq])) | (refine wl_build (by rfl) (built_len _) rfl ?_; (try simp only [Act.put, k1, k2, k3]); (try simp only [← labV_eq])) | (go_at_call 84; refine (hasPrefix_c _ hs h1 _).mono ?_; rintro e w1 ⟨rfl, hx⟩; replace hm := hm.call hx; clear hx)); (try simp only [k4, k5, k6, Act.put, k1, k2, k3]))
  go_ret2
  exact ⟨rfl, hm.ext⟩

theorem cut_c (s t : ByteArray) (hs : s.extract 0 1 = { data := #[47] }) (ht : s.extract 1 s.size = t) (h1 : (1 : Int) ≤ (s.size : Int)) (w : World) :
    Calls Try.prog 57 #[.string s, .string { data := #[47] }] w fun e w' => e = .returned (.tuple #[.string t, .bool true]) ∧ Ext w w' := by
  go_enter Try.func57, Try.ntmps57
  have hm := Mem.refl w []
  go_wp2_with ((first | refine wpList_skip (by rfl) ?_ | (refine wlL (hm := hm) (hu := by first | exact undLabel) (hi := by (try simp only [rowOf_size]); first | exact sizeLabel) (h := ?_); (try simp only [Act.put, k1, k2, k3]); (try simp only [← labV_eq])) | refine wlLC (hm := hm) (hu := by first | exact undInt | exact undU64) (h := ?_) | (refine wlS (hm := hm) (hv := (by first | rfl | exact idV_eq _ | exact labV_eq _ _ | exact rectV_eq _ _ _ _)) (hi := by (try simp only [rowOf_size]); first | exact sizeLabel) (hs := by first | (simp only [rowOf_size]; done) | rfl) (h := ?_); clear hm; intro w1 hm; (try simp only [rowOf_set, k1, k2, k3, Value.cells, Act.eval, k7, k8, k9, kA, Option.getD_some] at hm)) | (refine wlSC (hm := hm) (hi := by first | exact sizeInt | exact sizeU64) (ho := by first | decide | (simp only [rowOf_size]; omega) | (simp; done)) (h := ?_); clear hm; intro w1 hm; (try simp only [rowOf_set, k1, k2, k3, Value.cells, Act.eval, k7, k8, k9, kA, Option.getD_some] at hm)) | (refine wlA (hz := by first | exact zeroLabel) (hm := hm) (h := ?_); clear hm; intro b1 w1 hm; (try simp only [rowOf_set, k1, k2, k3, Value.cells, Act.eval, k7, k8, k9, kA, Option.getD_some] at hm)) | (refine wl_box (by rfl) rfl (by first | exact idV_cells _ | exact labV_cells _ _ | exact rectV_cells _ _ _ _ | rfl) hm ?_; clear hm; intro b1 w1 hm) | (refine wl_build (by rfl) (built_zeroL) rfl ?_; (try simp only [Act.put, k1, k2, k3]); (try simp only [← labV_eq])) | (refine wl_build (by rfl) (built_len _) rfl ?_; (try simp only [Act.put, k1, k2, k3]); (try simp only [← labV_eq])) | (go_at_call 74; refine (cutPrefix_c _ _ hs ht h1 _).mono ?_; rintro e w1 ⟨rfl, hx⟩; replace hm := hm.call hx; clear hx)); (try simp only [k4, k5, k6, Act.put, k1, k2, k3]))
  go_ret2
  exact ⟨rfl, hm.ext⟩

/-- The bits of a text of noughts and ones. -/
def accB (f : Nat → Nat) : Nat → Nat
  | 0 => 0
  | k + 1 => if f k = 49 then kid (accB f k) k else accB f k
theorem accB_ok (f : Nat → Nat) : ∀ k, k ≤ 64 → accB f k % 2 ^ (64 - k) = 0 ∧ accB f k < 2 ^ 64
  | 0, _ => ⟨Nat.zero_mod _, by show 0 < 2 ^ 64; decide⟩
  | k + 1, h => by
    obtain ⟨h0, h1⟩ := accB_ok f k (by omega)
    have hp : 0 < 2 ^ (63 - k) := Nat.pow_pos (by omega)
    have e : 2 ^ (64 - k) = 2 * 2 ^ (63 - k) := by rw [show 64 - k = 63 - k + 1 from by omega, Nat.pow_succ, Nat.mul_comm]
    have e2 : (2 : Nat) ^ 64 = 2 ^ (63 - k) * 2 * 2 ^ k := by rw [← Nat.pow_succ, ← Nat.pow_add]; congr 1; omega
    rw [e] at h0
    obtain ⟨q, hq⟩ : ∃ q, accB f k = 2 * 2 ^ (63 - k) * q := ⟨_, (Nat.mul_div_cancel' (Nat.dvd_of_mod_eq_zero h0)).symm⟩
    rw [accB, show 64 - (k + 1) = 63 - k from by omega]
    split
    · rw [kid_eq, hq]
      refine ⟨?_, ?_⟩
      · rw [show 2 * 2 ^ (63 - k) * q + 2 ^ (63 - k) = 2 ^ (63 - k) * (2 * q + 1) from by rw [Nat.mul_add, Nat.mul_one, ← Nat.mul_assoc, Nat.mul_comm (2 ^ (63 - k)) 2]]
        exact Nat.mul_mod_right _ _
      · rw [hq, e2] at h1
        have hqk : q < 2 ^ k := by
          refine Nat.lt_of_mul_lt_mul_left (a := 2 * 2 ^ (63 - k)) ?_
          rw [Nat.mul_comm 2 (2 ^ (63 - k))] at h1 ⊢
          exact h1
        have := Nat.mul_le_mul_left (2 * 2 ^ (63 - k)) (show q + 1 ≤ 2 ^ k from hqk)
        rw [Nat.mul_add] at this
        rw [e2, Nat.mul_comm (2 ^ (63 - k)) 2]
        omega
    · refine ⟨?_, h1⟩
      rw [hq, Nat.mul_comm 2, Nat.mul_assoc]
      exact Nat.mul_mod_right _ _

theorem iterPos_of' {w : World} {k : Nat} {s : ByteArray} {p : Nat} (h : w.heap[k]? = some (.stringIter s p)) : w.iterPos k = p := by simp [World.iterPos, h]

theorem parse_ok (s t : ByteArray) (f : Nat → Nat) (hs : s.extract 0 1 = { data := #[47] }) (ht : s.extract 1 s.size = t) (h1 : (1 : Int) ≤ (s.size : Int)) (h64 : t.size ≤ 64)
    (hf : ∀ j (h : j < t.size), (t[j]'h).toNat = f j) (hd : ∀ j, j < t.size → f j = 48 ∨ f j = 49) (w : World) :
    Calls Try.prog 18 #[.string s] w fun e w' => e = .returned (.tuple #[labV (t.size : Int) (accB f t.size), .int .i64 0]) ∧ Ext w w' := by
  have d0 : decide ((64 : Int) < (t.size : Int)) = false := decide_eq_false (by omega)
  have d1 : ¬ ((64 : Int) < (t.size : Int)) := by omega
  have d2 : ¬ (64 < t.size) := by omega
  have HF := hid hf
  have HD := hid hd
  clear hf hd
  go_enter Try.func18, Try.ntmps18
  have hm := Mem.refl w []
  go_wp2_with (with_reducible first | refine stAl ?_ | refine stBo ?_ | refine stLo ?_ | refine stSo ?_ | refine stBu ?_ | refine stBs ?_ | refine stMs ?_ | refine stAp ?_ | refine stCo ?_ | (show wpList _ _ _ (⟨_, .range _ _, _, _, _, _⟩ :: _) _ _; refine Stop.mk ?_)  | (show wpList _ _ _ (⟨_, .next _ _, _, _, _, _⟩ :: _) _ _; refine Stop.mk ?_)); refine Stop.go (wl_alloc (by rfl) zeroLabel rfl hm ?_); clear hm; intro b1 w1 hm; simp only [Act.put, k1, k2, k3]; (try simp only [rowOf_set, k1, k2, k3, Value.cells, Act.eval, k7, k8, k9, kA, Option.getD_some] at hm)
  go_wp2_with (with_reducible first | refine stAl ?_ | refine stBo ?_ | refine stLo ?_ | refine stSo ?_ | refine stBu ?_ | refine stBs ?_ | refine stMs ?_ | refine stAp ?_ | refine stCo ?_ | (show wpList _ _ _ (⟨_, .range _ _, _, _, _, _⟩ :: _) _ _; refine Stop.mk ?_)  | (show wpList _ _ _ (⟨_, .next _ _, _, _, _, _⟩ :: _) _ _; refine Stop.mk ?_)); refine (cut_c _ _ hs ht h1 _).mono ?_; rintro e w2 ⟨rfl, hx⟩; replace hm := hm.call hx; clear hx
  go_wp2_with (with_reducible first | refine stAl ?_ | refine stBo ?_ | refine stLo ?_ | refine stSo ?_ | refine stBu ?_ | refine stBs ?_ | refine stMs ?_ | refine stAp ?_ | refine stCo ?_ | (show wpList _ _ _ (⟨_, .range _ _, _, _, _, _⟩ :: _) _ _; refine Stop.mk ?_)  | (show wpList _ _ _ (⟨_, .next _ _, _, _, _, _⟩ :: _) _ _; refine Stop.mk ?_)); refine Stop.go (wl_build (by rfl) (built_len (t.size : Int)) (by simp [Act.eval]) ?_); simp only [Act.put, k1, k2, k3]
  go_wp2_with (with_reducible first | refine stAl ?_ | refine stBo ?_ | refine stLo ?_ | refine stSo ?_ | refine stBu ?_ | refine stBs ?_ | refine stMs ?_ | refine stAp ?_ | refine stCo ?_ | (show wpList _ _ _ (⟨_, .range _ _, _, _, _, _⟩ :: _) _ _; refine Stop.mk ?_)  | (show wpList _ _ _ (⟨_, .next _ _, _, _, _, _⟩ :: _) _ _; refine Stop.mk ?_)); refine Stop.go (wl_alloc (by rfl) zeroLabel rfl hm ?_); clear hm; intro b2 w3 hm; simp only [Act.put, k1, k2, k3]; (try simp only [rowOf_set, k1, k2, k3, Value.cells, Act.eval, k7, k8, k9, kA, Option.getD_some] at hm)
  go_wp2_with (with_reducible first | refine stAl ?_ | refine stBo ?_ | refine stLo ?_ | refine stSo ?_ | refine stBu ?_ | refine stBs ?_ | refine stMs ?_ | refine stAp ?_ | refine stCo ?_ | (show wpList _ _ _ (⟨_, .range _ _, _, _, _, _⟩ :: _) _ _; refine Stop.mk ?_)  | (show wpList _ _ _ (⟨_, .next _ _, _, _, _, _⟩ :: _) _ _; refine Stop.mk ?_))
  refine Stop.go (wl_store (i := 0) (by rfl) hm rfl rfl rfl rfl sizeLabel rfl (by first | rfl | (simp only [List.size_toArray, List.length_cons, List.all_toArray', List.all_cons, List.all_nil, Value.oneCell', Bool.and_true, Bool.and_self]; done) | (simp [Value.oneCell']; done) | exact rowOf_one _ _ (fun _ _ => rfl) | exact idC_one _ | (exact rowOf_one _ _ (by intro i _; repeat (first | rfl | split)))) ?_); clear hm; intro w4 hm; simp only [Act.put, k1, k2, k3]; (try simp only [rowOf_set, k1, k2, k3, Value.cells, Act.eval, k7, k8, k9, kA, Option.getD_some] at hm)
  go_wp2_with (with_reducible first | refine stAl ?_ | refine stBo ?_ | refine stLo ?_ | refine stSo ?_ | refine stBu ?_ | refine stBs ?_ | refine stMs ?_ | refine stAp ?_ | refine stCo ?_ | (show wpList _ _ _ (⟨_, .range _ _, _, _, _, _⟩ :: _) _ _; refine Stop.mk ?_)  | (show wpList _ _ _ (⟨_, .next _ _, _, _, _, _⟩ :: _) _ _; refine Stop.mk ?_))
  refine Stop.go (wl_range (by rfl) hm undString rfl ?_); clear hm; intro b3 w5 hm; simp only [Act.put, k1, k2, k3]
  go_wp2_with (with_reducible first | refine stAl ?_ | refine stBo ?_ | refine stLo ?_ | refine stSo ?_ | refine stBu ?_ | refine stBs ?_ | refine stMs ?_ | refine stAp ?_ | refine stCo ?_ | (show wpList _ _ _ (⟨_, .range _ _, _, _, _, _⟩ :: _) _ _; refine Stop.mk ?_)  | (show wpList _ _ _ (⟨_, .next _ _, _, _, _, _⟩ :: _) _ _; refine Stop.mk ?_))
  go_loopw [6] (fun _ wr => ∃ k : Nat, k ≤ t.size ∧ Mem w [] [(b3, .stringIter t k), (b2, .cells #[.int .i64 (t.size : Int), .int .u64 ((accB f k : Nat) : Int)] 24), (b1, .cells #[.int .i64 0, .int .u64 0] 24)] wr)
    (fun _ wr => t.size - wr.iterPos b3)
  case atStart => exact ⟨0, by omega, hm⟩
  case round =>
    clear hm
    obtain ⟨k, hk, hm⟩ := hrel
    have hit0 := hid (iterPos_of' (hm.heap (i := 0) rfl))
    by_cases h0 : k < t.size
    · have h63 : k < 64 := by omega
      have hfk := HF.out k h0
      have hdk := HD.out k h0
      obtain ⟨hB0, hB1⟩ := accB_ok f k (by omega)
      have HS := hid (show accB f (k + 1) = if f k = 49 then kid (accB f k) k else accB f k from rfl)
      obtain ⟨c, hc⟩ : ∃ c, f k = c := ⟨_, rfl⟩
      rw [hc] at hfk hdk HS
      clear hc
      obtain ⟨b, hb⟩ : ∃ b, accB f k = b := ⟨_, rfl⟩
      rw [hb] at hm hB0 hB1 HS
      clear hb
      rcases hdk with rfl | rfl
      · go_wp2_with (with_reducible first | refine stAl ?_ | refine stBo ?_ | refine stLo ?_ | refine stSo ?_ | refine stBu ?_ | refine stBs ?_ | refine stMs ?_ | refine stAp ?_ | refine stCo ?_ | (show wpList _ _ _ (⟨_, .range _ _, _, _, _, _⟩ :: _) _ _; refine Stop.mk ?_)  | (show wpList _ _ _ (⟨_, .next _ _, _, _, _, _⟩ :: _) _ _; refine Stop.mk ?_))
        refine Stop.go (wl_next (i := 0) (by rfl) hm rfl rfl h0 hfk (by decide) ?_); clear hm; intro w6 hm; simp only [Act.put, k1, k2, k3]; (try simp only [rowOf_set, k1, k2, k3, Value.cells, Act.eval, k7, k8, k9, kA, Option.getD_some] at hm)
        go_wp2_with ((first | refine wpList_skip (by rfl) ?_ | (refine wlL (hm := hm) (hu := by first | exact undLabel) (hi := by (try simp only [rowOf_size]); first | exact sizeLabel) (h := ?_); (try simp only [Act.put, k1, k2, k3]); (try simp only [← labV_eq])) | refine wlLC (hm := hm) (hu := by first | exact undInt | exact undU64) (h := ?_) | (refine wlS (hm := hm) (hv := (by first | rfl | exact idV_eq _ | exact labV_eq _ _ | exact rectV_eq _ _ _ _)) (hi := by (try simp only [rowOf_size]); first | exact sizeLabel) (hs := by first | (simp only [rowOf_size]; done) | rfl) (h := ?_); clear hm; intro w1 hm; (try simp only [rowOf_set, k1, k2, k3, Value.cells, Act.eval, k7, k8, k9, kA, Option.getD_some] at hm)) | (refine wlSC (hm := hm) (hi := by first | exact sizeInt | exact sizeU64) (ho := by first | decide | (simp only [rowOf_size]; omega) | (simp; done)) (h := ?_); clear hm; intro w1 hm; (try simp only [rowOf_set, k1, k2, k3, Value.cells, Act.eval, k7, k8, k9, kA, Option.getD_some] at hm)) | (refine wlA (hz := by first | exact zeroLabel) (hm := hm) (h := ?_); clear hm; intro b1 w1 hm; (try simp only [rowOf_set, k1, k2, k3, Value.cells, Act.eval, k7, k8, k9, kA, Option.getD_some] at hm)) | (refine wl_box (by rfl) rfl (by first | exact idV_cells _ | exact labV_cells _ _ | exact rectV_cells _ _ _ _ | rfl) hm ?_; clear hm; intro b1 w1 hm) | (refine wl_build (by rfl) (built_zeroL) rfl ?_; (try simp only [Act.put, k1, k2, k3]); (try simp only [← labV_eq])) | (refine wl_build (by rfl) (built_len _) rfl ?_; (try simp only [Act.put, k1, k2, k3]); (try simp only [← labV_eq])) | (go_at_call 53; refine (bit_c _ h63 _).mono ?_; rintro e w1 ⟨rfl, hx⟩; replace hm := hm.call hx; clear hx)); (try simp only [k4, k5, k6, Act.put, k1, k2, k3]))
        go_roundw
        case rel => exact ⟨k + 1, by omega, by rw [HS.out, if_neg (by decide)]; exact hm⟩
        case measure => rw [iterPos_of' (hm.heap (i := 0) rfl), hit0.out]; omega
      · have o1 : bits .or .u64 (b : Int) (2 ^ (63 - k)) = ((kid b k : Nat) : Int) := by
          have hp := pow64_lt (63 - k) (by omega)
          rw [show (2 : Int) ^ (63 - k) = ((2 ^ (63 - k) : Nat) : Int) from by norm_cast, u64_or_nat _ _ hB1 (by omega), or_bit _ _ hB0 h63, kid_eq]
        go_wp2_with (with_reducible first | refine stAl ?_ | refine stBo ?_ | refine stLo ?_ | refine stSo ?_ | refine stBu ?_ | refine stBs ?_ | refine stMs ?_ | refine stAp ?_ | refine stCo ?_ | (show wpList _ _ _ (⟨_, .range _ _, _, _, _, _⟩ :: _) _ _; refine Stop.mk ?_)  | (show wpList _ _ _ (⟨_, .next _ _, _, _, _, _⟩ :: _) _ _; refine Stop.mk ?_))
        refine Stop.go (wl_next (i := 0) (by rfl) hm rfl rfl h0 hfk (by decide) ?_); clear hm; intro w6 hm; simp only [Act.put, k1, k2, k3]; (try simp only [rowOf_set, k1, k2, k3, Value.cells, Act.eval, k7, k8, k9, kA, Option.getD_some] at hm)
        go_wp2_with (with_reducible first | refine stAl ?_ | refine stBo ?_ | refine stLo ?_ | refine stSo ?_ | refine stBu ?_ | refine stBs ?_ | refine stMs ?_ | refine stAp ?_ | refine stCo ?_ | (show wpList _ _ _ (⟨_, .range _ _, _, _, _, _⟩ :: _) _ _; refine Stop.mk ?_)  | (show wpList _ _ _ (⟨_, .next _ _, _, _, _, _⟩ :: _) _ _; refine Stop.mk ?_)); refine wp_quiet_last 6 (by kernel_rfl) rfl (by kernel_rfl) (by kernel_rfl) hm ?_; simp only [List.take_succ_cons, List.take_zero, List.cons_append, List.nil_append, hush]
        repeat ((first | refine wq_skip (by rfl) ?_ | (refine wqL (hu := by first | exact undLabel) (hi := by (try simp only [rowOf_size]); first | exact sizeLabel) (h := ?_); (try simp only [Act.put, k1, k2, k3]); (try simp only [← labV_eq])) | refine wqLC (hu := by first | exact undInt | exact undU64) (h := ?_) | ((with_reducible show wpQuiet _ _ _ _ (⟨_, .call _, _, _, _, _⟩ :: _) _); refine wq_ask (by rfl) ?_; apply Exists.intro; refine ⟨?_, ?_⟩; (focus (intro w hC; go_simp; first | (go_at_call 53; exact (bit_c _ h63 _).mono fun e w' h => ⟨h.1, hC.call h.2⟩)))) | (refine wq_build (by rfl) (built_zeroL) rfl ?_; (try simp only [Act.put, k1, k2, k3]); (try simp only [← labV_eq])) | (refine wq_build (by rfl) (built_len _) rfl ?_; (try simp only [Act.put, k1, k2, k3]); (try simp only [← labV_eq])) | refine wqS (h := ?_)); (try simp only [k4, k5, k6, Act.put, k1, k2, k3]))
        refine wpQuiet_nil ?_; clear hm; intro w7 hm
        go_wp2_with ((first | refine wpList_skip (by rfl) ?_ | (refine wlL (hm := hm) (hu := by first | exact undLabel) (hi := by (try simp only [rowOf_size]); first | exact sizeLabel) (h := ?_); (try simp only [Act.put, k1, k2, k3]); (try simp only [← labV_eq])) | refine wlLC (hm := hm) (hu := by first | exact undInt | exact undU64) (h := ?_) | (refine wlS (hm := hm) (hv := (by first | rfl | exact idV_eq _ | exact labV_eq _ _ | exact rectV_eq _ _ _ _)) (hi := by (try simp only [rowOf_size]); first | exact sizeLabel) (hs := by first | (simp only [rowOf_size]; done) | rfl) (h := ?_); clear hm; intro w1 hm; (try simp only [rowOf_set, k1, k2, k3, Value.cells, Act.eval, k7, k8, k9, kA, Option.getD_some] at hm)) | (refine wlSC (hm := hm) (hi := by first | exact sizeInt | exact sizeU64) (ho := by first | decide | (simp only [rowOf_size]; omega) | (simp; done)) (h := ?_); clear hm; intro w1 hm; (try simp only [rowOf_set, k1, k2, k3, Value.cells, Act.eval, k7, k8, k9, kA, Option.getD_some] at hm)) | (refine wlA (hz := by first | exact zeroLabel) (hm := hm) (h := ?_); clear hm; intro b1 w1 hm; (try simp only [rowOf_set, k1, k2, k3, Value.cells, Act.eval, k7, k8, k9, kA, Option.getD_some] at hm)) | (refine wl_box (by rfl) rfl (by first | exact idV_cells _ | exact labV_cells _ _ | exact rectV_cells _ _ _ _ | rfl) hm ?_; clear hm; intro b1 w1 hm) | (refine wl_build (by rfl) (built_zeroL) rfl ?_; (try simp only [Act.put, k1, k2, k3]); (try simp only [← labV_eq])) | (refine wl_build (by rfl) (built_len _) rfl ?_; (try simp only [Act.put, k1, k2, k3]); (try simp only [← labV_eq])) | (go_at_call 53; refine (bit_c _ h63 _).mono ?_; rintro e w1 ⟨rfl, hx⟩; replace hm := hm.call hx; clear hx)); (try simp only [k4, k5, k6, Act.put, k1, k2, k3]))
        go_roundw
        case rel => exact ⟨k + 1, by omega, by rw [HS.out]; simp only [if_true]; exact hm⟩
        case measure => rw [iterPos_of' (hm.heap (i := 0) rfl), hit0.out]; omega
    · obtain rfl : k = t.size := by omega
      go_wp2_with (with_reducible first | refine stAl ?_ | refine stBo ?_ | refine stLo ?_ | refine stSo ?_ | refine stBu ?_ | refine stBs ?_ | refine stMs ?_ | refine stAp ?_ | refine stCo ?_ | (show wpList _ _ _ (⟨_, .range _ _, _, _, _, _⟩ :: _) _ _; refine Stop.mk ?_)  | (show wpList _ _ _ (⟨_, .next _ _, _, _, _, _⟩ :: _) _ _; refine Stop.mk ?_))
      refine Stop.go (wl_next_end (i := 0) (by rfl) hm rfl rfl h0 ?_); simp only [Act.put, k1, k2, k3]
      go_wp2_with ((first | refine wpList_skip (by rfl) ?_ | (refine wlL (hm := hm) (hu := by first | exact undLabel) (hi := by (try simp only [rowOf_size]); first | exact sizeLabel) (h := ?_); (try simp only [Act.put, k1, k2, k3]); (try simp only [← labV_eq])) | refine wlLC (hm := hm) (hu := by first | exact undInt | exact undU64) (h := ?_) | (refine wlS (hm := hm) (hv := (by first | rfl | exact idV_eq _ | exact labV_eq _ _ | exact rectV_eq _ _ _ _)) (hi := by (try simp only [rowOf_size]); first | exact sizeLabel) (hs := by first | (simp only [rowOf_size]; done) | rfl) (h := ?_); clear hm; intro w1 hm; (try simp only [rowOf_set, k1, k2, k3, Value.cells, Act.eval, k7, k8, k9, kA, Option.getD_some] at hm)) | (refine wlSC (hm := hm) (hi := by first | exact sizeInt | exact sizeU64) (ho := by first | decide | (simp only [rowOf_size]; omega) | (simp; done)) (h := ?_); clear hm; intro w1 hm; (try simp only [rowOf_set, k1, k2, k3, Value.cells, Act.eval, k7, k8, k9, kA, Option.getD_some] at hm)) | (refine wlA (hz := by first | exact zeroLabel) (hm := hm) (h := ?_); clear hm; intro b1 w1 hm; (try simp only [rowOf_set, k1, k2, k3, Value.cells, Act.eval, k7, k8, k9, kA, Option.getD_some] at hm)) | (refine wl_box (by rfl) rfl (by first | exact idV_cells _ | exact labV_cells _ _ | exact rectV_cells _ _ _ _ | rfl) hm ?_; clear hm; intro b1 w1 hm) | (refine wl_build (by rfl) (built_zeroL) rfl ?_; (try simp only [Act.put, k1, k2, k3]); (try simp only [← labV_eq])) | (refine wl_build (by rfl) (built_len _) rfl ?_; (try simp only [Act.put, k1, k2, k3]); (try simp only [← labV_eq])) | (go_at_call 53; refine (bit_c _ h63 _).mono ?_; rintro e w1 ⟨rfl, hx⟩; replace hm := hm.call hx; clear hx)); (try simp only [k4, k5, k6, Act.put, k1, k2, k3]))
      refine bodyPost_ret (results_row_tmp (h := rfl) _ _ _ _ _ _ _ rfl (hm.heap (i := 2) rfl) undLabel rfl (by first | exact sizeLabel | (simp only [rowOf_size]; exact sizeLabel))) rfl ?_
      exact ⟨by simp only [labV_eq]; rfl, hm.ext⟩
end Go.Proofs.Ytdlfgoiakkkilaa
