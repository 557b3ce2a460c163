/-
  The document's labels: bits, number, fill, of, Is, Bits.
-/
import Derived.Test.YtijkmbebfodhdaaLabR
import Derived.Test.YtijkmbebfodhdaaLabB
import Derived.Test.YtijkmbebfodhdaaTxt
import Derived.Test.YtijkmbebfodhdaaMem6
namespace Go.Proofs.Ytijkmbebfodhdaa
open Go.RowKit
set_option linter.unusedSimpArgs false
set_option linter.unusedVariables false
set_option maxHeartbeats 1000000
set_option maxRecDepth 20000
attribute [local irreducible] wpQuiet wpList wpAnyH Calls

/-- What the walk is told of a callee. -/
def Says (f : FuncId) (args : Array Value) (v : Value) : Prop := ∀ w, Calls Try.prog f args w fun e w' => e = .returned v ∧ Ext w w'

theorem undS : Try.prog.underlying 9 = some .string := by kernel_rfl
theorem built_lab (x y : Int) : Try.prog.built 26 [(0, .int .i64 x), (1, .int .u64 y)] = some #[.int .i64 x, .int .u64 y] := by kernel_rfl
/-- A byte of a text. -/
theorem run_indexS {s : ByteArray} {k c : Nat} (h : s.data.toList[k]? = some (UInt8.ofNat c)) (hc : c < 256) (w : World) : (Instr.index 9 (.string s) (.int .i64 (k : Int))).run Try.prog w = .ok (.int .u8 (c : Int)) w := by
  have hk : k < s.data.toList.length := (List.getElem?_eq_some_iff.1 h).1
  have hb : s[k]? = some (UInt8.ofNat c) := by
    have : s.data[k]? = some (UInt8.ofNat c) := by rw [← Array.getElem?_toList]; exact h
    have hs : k < s.size := by rw [Array.length_toList] at hk; exact hk
    rw [getElem?_pos s k hs]
    rw [Array.getElem?_eq_getElem hs] at this
    exact this
  have hc' : (UInt8.ofNat c).toNat = c := by simp only [UInt8.toNat_ofNat']; omega
  simp [Instr.index, asIntOf, run_underlying undS, hb, hc']
theorem slice_to {s t : ByteArray} {n : Nat} (hn : n ≤ s.size) (h : s.extract 0 n = t) (w : World) : (Instr.slice 9 (.string s) none (some (.int .i64 (n : Int))) none).run Try.prog w = .ok (.string t) w := by
  rw [run_slice_string_to_if _ _ _ _ _ undS, if_pos ⟨by omega, by omega⟩, Int.toNat_natCast, h]
theorem slice_from {s t : ByteArray} {n : Nat} (hn : n ≤ s.size) (h : s.extract n s.size = t) (w : World) : (Instr.slice 9 (.string s) (some (.int .i64 (n : Int))) none none).run Try.prog w = .ok (.string t) w := by
  rw [run_slice_string_from_if _ _ _ _ _ undS, if_pos ⟨by omega, by omega⟩, Int.toNat_natCast, h]

theorem refBits_c (v : Nat) (hv : v < 2 ^ 64) (w : World) :
    Calls Try.prog 45 #[.int .u64 (v : Int)] w fun e w' => e = .returned (.string (txt 64 v)) ∧ Ext w w' := by
  go_enter Try.func45, Try.ntmps45
  have hm := Mem.refl w []
  go_wp2_with ((first | refine wpList_skip (by rfl) ?_ | (refine wlL (hm := hm) (hu := by first | exact undLabel) (hi := by (try simp only [rowOf_size]); first | exact sizeLabel) (h := ?_); (try simp only [Act.put, k1, k2, k3]); (try simp only [← labV_eq])) | refine wlLC (hm := hm) (hu := by first | exact undInt | exact undU64) (h := ?_) | (refine wlS (hm := hm) (hv := (by first | rfl | exact idV_eq _ | exact labV_eq _ _ | exact rectV_eq _ _ _ _)) (hi := by (try simp only [rowOf_size]); first | exact sizeLabel) (hs := by first | (simp only [rowOf_size]; done) | rfl) (h := ?_); clear hm; intro w1 hm; (try simp only [rowOf_set, k1, k2, k3, Value.cells, Act.eval, k7, k8, k9, kA, Option.getD_some] at hm)) | (refine wlSC (hm := hm) (hi := by first | exact sizeInt | exact sizeU64) (ho := by first | decide | (simp only [rowOf_size]; omega) | (simp; done)) (h := ?_); clear hm; intro w1 hm; (try simp only [rowOf_set, k1, k2, k3, Value.cells, Act.eval, k7, k8, k9, kA, Option.getD_some] at hm)) | (refine wlA (hz := by first | exact zeroLabel) (hm := hm) (h := ?_); clear hm; intro b1 w1 hm; (try simp only [rowOf_set, k1, k2, k3, Value.cells, Act.eval, k7, k8, k9, kA, Option.getD_some] at hm)) | (refine wl_box (by rfl) rfl (by first | exact idV_cells _ | exact labV_cells _ _ | exact rectV_cells _ _ _ _ | rfl) hm ?_; clear hm; intro b1 w1 hm) | (refine wl_build (by rfl) (built_zeroL) rfl ?_; (try simp only [Act.put, k1, k2, k3]); (try simp only [← labV_eq])) | (refine wl_build (by rfl) (built_lab _ _) rfl ?_; (try simp only [Act.put, k1, k2, k3]); (try simp only [← labV_eq]))); (try simp only [k4, k5, k6, Act.put, k1, k2, k3]))
  go_loopw [0, 3, 4] (fun vc vo vi wr => ∃ k : Nat, k ≤ 64 ∧ vi = .int .i64 (k : Int) ∧ vc = .int .u64 ((v / 2 ^ k : Nat) : Int) ∧ vo = .string (txt k (v % 2 ^ k)) ∧ Mem w [] [] wr)
    (fun _ _ vi _ => (64 - intOf vi).toNat)
  case atStart => exact ⟨0, by omega, rfl, by rw [Nat.pow_zero, Nat.div_one], by rw [txt_nil], hm⟩
  case round =>
    clear hm
    obtain ⟨k, hk, rfl, rfl, rfl, hm⟩ := hrel
    by_cases h0 : k < 64
    · have hk64 : (k : Int) < 64 := by omega
      have w1 : IntKind.i64.wrap ((k : Int) + 1) = (k : Int) + 1 := wrap_i64 (by omega) (by omega)
      obtain ⟨c, hc⟩ : ∃ c, v / 2 ^ k = c := ⟨_, rfl⟩
      obtain ⟨x, hx⟩ : ∃ x, c % 2 = x := ⟨_, rfl⟩
      have hx2 : x < 2 := by omega
      have HC := hid (show v / 2 ^ (k + 1) = c / 2 from by rw [Nat.pow_succ, ← Nat.div_div_eq_div_mul, hc])
      have HN := hid (show (if x = 0 then ({ data := #[48] } : ByteArray) else { data := #[49] }) ++ txt k (v % 2 ^ k) = txt (k + 1) (v % 2 ^ (k + 1)) from by
        rw [chr_eq x hx2, txt_cons _ _ _ hx2 (Nat.mod_lt _ (Nat.pow_pos (by omega))), Nat.mod_pow_succ, hc, hx, Nat.add_comm (2 ^ k * x)])
      obtain ⟨o, ho⟩ : ∃ o, txt k (v % 2 ^ k) = o := ⟨_, rfl⟩
      rw [ho] at HN
      rw [ho, hc]
      obtain ⟨c2, hc2⟩ : ∃ c2, c / 2 = c2 := ⟨_, rfl⟩
      rw [hc2] at HC
      have f2 : (c : Int) / 2 = (c2 : Int) := by omega
      have hcl : c < 2 ^ 64 := by rw [← hc]; exact Nat.lt_of_le_of_lt (Nat.div_le_self _ _) hv
      have f3 : IntKind.u64.wrap (c2 : Int) = (c2 : Int) := wrap_u64 (by omega) (by omega)
      have hz : ¬ 9223372036854775807 < 1 + o.size := by rw [← ho, txt_size]; omega
      clear ho hc hc2 hcl
      rcases (show x = 0 ∨ x = 1 by omega) with rfl | rfl
      · have f1 : (c : Int) % 2 = 0 := by omega
        clear hx hx2
        go_wp2_with ((first | refine wpList_skip (by rfl) ?_ | (refine wlL (hm := hm) (hu := by first | exact undLabel) (hi := by (try simp only [rowOf_size]); first | exact sizeLabel) (h := ?_); (try simp only [Act.put, k1, k2, k3]); (try simp only [← labV_eq])) | refine wlLC (hm := hm) (hu := by first | exact undInt | exact undU64) (h := ?_) | (refine wlS (hm := hm) (hv := (by first | rfl | exact idV_eq _ | exact labV_eq _ _ | exact rectV_eq _ _ _ _)) (hi := by (try simp only [rowOf_size]); first | exact sizeLabel) (hs := by first | (simp only [rowOf_size]; done) | rfl) (h := ?_); clear hm; intro w1 hm; (try simp only [rowOf_set, k1, k2, k3, Value.cells, Act.eval, k7, k8, k9, kA, Option.getD_some] at hm)) | (refine wlSC (hm := hm) (hi := by first | exact sizeInt | exact sizeU64) (ho := by first | decide | (simp only [rowOf_size]; omega) | (simp; done)) (h := ?_); clear hm; intro w1 hm; (try simp only [rowOf_set, k1, k2, k3, Value.cells, Act.eval, k7, k8, k9, kA, Option.getD_some] at hm)) | (refine wlA (hz := by first | exact zeroLabel) (hm := hm) (h := ?_); clear hm; intro b1 w1 hm; (try simp only [rowOf_set, k1, k2, k3, Value.cells, Act.eval, k7, k8, k9, kA, Option.getD_some] at hm)) | (refine wl_box (by rfl) rfl (by first | exact idV_cells _ | exact labV_cells _ _ | exact rectV_cells _ _ _ _ | rfl) hm ?_; clear hm; intro b1 w1 hm) | (refine wl_build (by rfl) (built_zeroL) rfl ?_; (try simp only [Act.put, k1, k2, k3]); (try simp only [← labV_eq])) | (refine wl_build (by rfl) (built_lab _ _) rfl ?_; (try simp only [Act.put, k1, k2, k3]); (try simp only [← labV_eq]))); (try simp only [k4, k5, k6, Act.put, k1, k2, k3]))
        go_roundw
        case rel => exact ⟨k + 1, by omega, by go_num, by rw [HC.out], by rw [← HN.out]; rfl, hm⟩
        case measure => (simp [intOf]; try omega)
      · have f1 : (c : Int) % 2 = 1 := by omega
        clear hx hx2
        go_wp2_with ((first | refine wpList_skip (by rfl) ?_ | (refine wlL (hm := hm) (hu := by first | exact undLabel) (hi := by (try simp only [rowOf_size]); first | exact sizeLabel) (h := ?_); (try simp only [Act.put, k1, k2, k3]); (try simp only [← labV_eq])) | refine wlLC (hm := hm) (hu := by first | exact undInt | exact undU64) (h := ?_) | (refine wlS (hm := hm) (hv := (by first | rfl | exact idV_eq _ | exact labV_eq _ _ | exact rectV_eq _ _ _ _)) (hi := by (try simp only [rowOf_size]); first | exact sizeLabel) (hs := by first | (simp only [rowOf_size]; done) | rfl) (h := ?_); clear hm; intro w1 hm; (try simp only [rowOf_set, k1, k2, k3, Value.cells, Act.eval, k7, k8, k9, kA, Option.getD_some] at hm)) | (refine wlSC (hm := hm) (hi := by first | exact sizeInt | exact sizeU64) (ho := by first | decide | (simp only [rowOf_size]; omega) | (simp; done)) (h := ?_); clear hm; intro w1 hm; (try simp only [rowOf_set, k1, k2, k3, Value.cells, Act.eval, k7, k8, k9, kA, Option.getD_some] at hm)) | (refine wlA (hz := by first | exact zeroLabel) (hm := hm) (h := ?_); clear hm; intro b1 w1 hm; (try simp only [rowOf_set, k1, k2, k3, Value.cells, Act.eval, k7, k8, k9, kA, Option.getD_some] at hm)) | (refine wl_box (by rfl) rfl (by first | exact idV_cells _ | exact labV_cells _ _ | exact rectV_cells _ _ _ _ | rfl) hm ?_; clear hm; intro b1 w1 hm) | (refine wl_build (by rfl) (built_zeroL) rfl ?_; (try simp only [Act.put, k1, k2, k3]); (try simp only [← labV_eq])) | (refine wl_build (by rfl) (built_lab _ _) rfl ?_; (try simp only [Act.put, k1, k2, k3]); (try simp only [← labV_eq]))); (try simp only [k4, k5, k6, Act.put, k1, k2, k3]))
        go_roundw
        case rel => exact ⟨k + 1, by omega, by go_num, by rw [HC.out], by rw [← HN.out]; rfl, hm⟩
        case measure => (simp [intOf]; try omega)
    · obtain rfl : k = 64 := by omega
      go_wp2_with ((first | refine wpList_skip (by rfl) ?_ | (refine wlL (hm := hm) (hu := by first | exact undLabel) (hi := by (try simp only [rowOf_size]); first | exact sizeLabel) (h := ?_); (try simp only [Act.put, k1, k2, k3]); (try simp only [← labV_eq])) | refine wlLC (hm := hm) (hu := by first | exact undInt | exact undU64) (h := ?_) | (refine wlS (hm := hm) (hv := (by first | rfl | exact idV_eq _ | exact labV_eq _ _ | exact rectV_eq _ _ _ _)) (hi := by (try simp only [rowOf_size]); first | exact sizeLabel) (hs := by first | (simp only [rowOf_size]; done) | rfl) (h := ?_); clear hm; intro w1 hm; (try simp only [rowOf_set, k1, k2, k3, Value.cells, Act.eval, k7, k8, k9, kA, Option.getD_some] at hm)) | (refine wlSC (hm := hm) (hi := by first | exact sizeInt | exact sizeU64) (ho := by first | decide | (simp only [rowOf_size]; omega) | (simp; done)) (h := ?_); clear hm; intro w1 hm; (try simp only [rowOf_set, k1, k2, k3, Value.cells, Act.eval, k7, k8, k9, kA, Option.getD_some] at hm)) | (refine wlA (hz := by first | exact zeroLabel) (hm := hm) (h := ?_); clear hm; intro b1 w1 hm; (try simp only [rowOf_set, k1, k2, k3, Value.cells, Act.eval, k7, k8, k9, kA, Option.getD_some] at hm)) | (refine wl_box (by rfl) rfl (by first | exact idV_cells _ | exact labV_cells _ _ | exact rectV_cells _ _ _ _ | rfl) hm ?_; clear hm; intro b1 w1 hm) | (refine wl_build (by rfl) (built_zeroL) rfl ?_; (try simp only [Act.put, k1, k2, k3]); (try simp only [← labV_eq])) | (refine wl_build (by rfl) (built_lab _ _) rfl ?_; (try simp only [Act.put, k1, k2, k3]); (try simp only [← labV_eq]))); (try simp only [k4, k5, k6, Act.put, k1, k2, k3]))
      go_ret
      exact ⟨by rw [Nat.mod_eq_of_lt hv]; rfl, hm.ext⟩

theorem number_c (v : Nat) (hv : v < 2 ^ 64) (w : World) :
    Calls Try.prog 81 #[.string (txt 64 v)] w fun e w' => e = .returned (.int .u64 (v : Int)) ∧ Ext w w' := by
  have hsz := txt_size 64 v
  have HI := hid (show ∀ k : Nat, k < 64 → ∀ w, (Instr.index 9 (.string (txt 64 v)) (.int .i64 (k : Int))).run Try.prog w = .ok (.int .u8 ((48 + v / 2 ^ (64 - 1 - k) % 2 : Nat) : Int)) w from fun k hk => run_indexS (txt_get 64 v k hk) (by omega))
  generalize txt 64 v = s at *
  have hs1 : (s.size : Int) = 64 := by omega
  clear hsz
  go_enter Try.func81, Try.ntmps81
  have hm := Mem.refl w []
  go_wp2_with ((first | refine wpList_skip (by rfl) ?_ | (refine wlL (hm := hm) (hu := by first | exact undLabel) (hi := by (try simp only [rowOf_size]); first | exact sizeLabel) (h := ?_); (try simp only [Act.put, k1, k2, k3]); (try simp only [← labV_eq])) | refine wlLC (hm := hm) (hu := by first | exact undInt | exact undU64) (h := ?_) | (refine wlS (hm := hm) (hv := (by first | rfl | exact idV_eq _ | exact labV_eq _ _ | exact rectV_eq _ _ _ _)) (hi := by (try simp only [rowOf_size]); first | exact sizeLabel) (hs := by first | (simp only [rowOf_size]; done) | rfl) (h := ?_); clear hm; intro w1 hm; (try simp only [rowOf_set, k1, k2, k3, Value.cells, Act.eval, k7, k8, k9, kA, Option.getD_some] at hm)) | (refine wlSC (hm := hm) (hi := by first | exact sizeInt | exact sizeU64) (ho := by first | decide | (simp only [rowOf_size]; omega) | (simp; done)) (h := ?_); clear hm; intro w1 hm; (try simp only [rowOf_set, k1, k2, k3, Value.cells, Act.eval, k7, k8, k9, kA, Option.getD_some] at hm)) | (refine wlA (hz := by first | exact zeroLabel) (hm := hm) (h := ?_); clear hm; intro b1 w1 hm; (try simp only [rowOf_set, k1, k2, k3, Value.cells, Act.eval, k7, k8, k9, kA, Option.getD_some] at hm)) | (refine wl_box (by rfl) rfl (by first | exact idV_cells _ | exact labV_cells _ _ | exact rectV_cells _ _ _ _ | rfl) hm ?_; clear hm; intro b1 w1 hm) | (refine wl_build (by rfl) (built_zeroL) rfl ?_; (try simp only [Act.put, k1, k2, k3]); (try simp only [← labV_eq])) | (refine wl_build (by rfl) (built_lab _ _) rfl ?_; (try simp only [Act.put, k1, k2, k3]); (try simp only [← labV_eq]))); (try simp only [k4, k5, k6, Act.put, k1, k2, k3]))
  go_loopw [3, 4] (fun vo vi wr => ∃ k : Nat, k ≤ 64 ∧ vi = .int .i64 (k : Int) ∧ vo = .int .u64 ((v / 2 ^ (64 - k) : Nat) : Int) ∧ Mem w [] [] wr)
    (fun _ vi _ => (64 - intOf vi).toNat)
  case atStart => exact ⟨0, by omega, rfl, by rw [show 64 - 0 = 64 from rfl, Nat.div_eq_of_lt hv]; rfl, hm⟩
  case round =>
    clear hm
    obtain ⟨k, hk, rfl, rfl, hm⟩ := hrel
    by_cases h0 : k < 64
    · have hk64 : (k : Int) < 64 := by omega
      have w1 : IntKind.i64.wrap ((k : Int) + 1) = (k : Int) + 1 := wrap_i64 (by omega) (by omega)
      have hI := HI.out k h0
      obtain ⟨q, hq⟩ : ∃ q, v / 2 ^ (64 - k) = q := ⟨_, rfl⟩
      obtain ⟨p, hp⟩ : ∃ p, v / 2 ^ (64 - (k + 1)) = p := ⟨_, rfl⟩
      have hp64 : p < 2 ^ 64 := by rw [← hp]; exact Nat.lt_of_le_of_lt (Nat.div_le_self _ _) hv
      have hqp : q = p / 2 := by rw [← hq, ← hp, Nat.div_div_eq_div_mul, show 64 - k = 64 - (k + 1) + 1 from by omega, Nat.pow_succ]
      rw [show 64 - 1 - k = 64 - (k + 1) from by omega, hp] at hI
      have HP := hid hp
      obtain ⟨x, hx⟩ : ∃ x, p % 2 = x := ⟨_, rfl⟩
      rw [hx] at hI
      obtain ⟨c, hc⟩ : ∃ c, 48 + x = c := ⟨_, rfl⟩
      rw [hc] at hI
      have f1 : IntKind.u8.wrap ((c : Int) - 48) = (x : Int) := by rw [wrap_u8 (by omega) (by omega)]; omega
      have f2 : IntKind.u64.wrap (x : Int) = (x : Int) := wrap_u64 (by omega) (by omega)
      have f3 : IntKind.u64.wrap (2 * (q : Int)) = 2 * (q : Int) := wrap_u64 (by omega) (by omega)
      have f4 : IntKind.u64.wrap (2 * (q : Int) + (x : Int)) = (p : Int) := by rw [wrap_u64 (by omega) (by omega)]; omega
      rw [hq]
      clear hq hp hqp hx hc hp64
      go_wp2_with ((first | refine wpList_skip (by rfl) ?_ | (refine wlL (hm := hm) (hu := by first | exact undLabel) (hi := by (try simp only [rowOf_size]); first | exact sizeLabel) (h := ?_); (try simp only [Act.put, k1, k2, k3]); (try simp only [← labV_eq])) | refine wlLC (hm := hm) (hu := by first | exact undInt | exact undU64) (h := ?_) | (refine wlS (hm := hm) (hv := (by first | rfl | exact idV_eq _ | exact labV_eq _ _ | exact rectV_eq _ _ _ _)) (hi := by (try simp only [rowOf_size]); first | exact sizeLabel) (hs := by first | (simp only [rowOf_size]; done) | rfl) (h := ?_); clear hm; intro w1 hm; (try simp only [rowOf_set, k1, k2, k3, Value.cells, Act.eval, k7, k8, k9, kA, Option.getD_some] at hm)) | (refine wlSC (hm := hm) (hi := by first | exact sizeInt | exact sizeU64) (ho := by first | decide | (simp only [rowOf_size]; omega) | (simp; done)) (h := ?_); clear hm; intro w1 hm; (try simp only [rowOf_set, k1, k2, k3, Value.cells, Act.eval, k7, k8, k9, kA, Option.getD_some] at hm)) | (refine wlA (hz := by first | exact zeroLabel) (hm := hm) (h := ?_); clear hm; intro b1 w1 hm; (try simp only [rowOf_set, k1, k2, k3, Value.cells, Act.eval, k7, k8, k9, kA, Option.getD_some] at hm)) | (refine wl_box (by rfl) rfl (by first | exact idV_cells _ | exact labV_cells _ _ | exact rectV_cells _ _ _ _ | rfl) hm ?_; clear hm; intro b1 w1 hm) | (refine wl_build (by rfl) (built_zeroL) rfl ?_; (try simp only [Act.put, k1, k2, k3]); (try simp only [← labV_eq])) | (refine wl_build (by rfl) (built_lab _ _) rfl ?_; (try simp only [Act.put, k1, k2, k3]); (try simp only [← labV_eq]))); (try simp only [k4, k5, k6, Act.put, k1, k2, k3]))
      go_roundw
      case rel => exact ⟨k + 1, by omega, by go_num, by rw [HP.out], hm⟩
      case measure => (simp [intOf]; try omega)
    · obtain rfl : k = 64 := by omega
      go_wp2_with ((first | refine wpList_skip (by rfl) ?_ | (refine wlL (hm := hm) (hu := by first | exact undLabel) (hi := by (try simp only [rowOf_size]); first | exact sizeLabel) (h := ?_); (try simp only [Act.put, k1, k2, k3]); (try simp only [← labV_eq])) | refine wlLC (hm := hm) (hu := by first | exact undInt | exact undU64) (h := ?_) | (refine wlS (hm := hm) (hv := (by first | rfl | exact idV_eq _ | exact labV_eq _ _ | exact rectV_eq _ _ _ _)) (hi := by (try simp only [rowOf_size]); first | exact sizeLabel) (hs := by first | (simp only [rowOf_size]; done) | rfl) (h := ?_); clear hm; intro w1 hm; (try simp only [rowOf_set, k1, k2, k3, Value.cells, Act.eval, k7, k8, k9, kA, Option.getD_some] at hm)) | (refine wlSC (hm := hm) (hi := by first | exact sizeInt | exact sizeU64) (ho := by first | decide | (simp only [rowOf_size]; omega) | (simp; done)) (h := ?_); clear hm; intro w1 hm; (try simp only [rowOf_set, k1, k2, k3, Value.cells, Act.eval, k7, k8, k9, kA, Option.getD_some] at hm)) | (refine wlA (hz := by first | exact zeroLabel) (hm := hm) (h := ?_); clear hm; intro b1 w1 hm; (try simp only [rowOf_set, k1, k2, k3, Value.cells, Act.eval, k7, k8, k9, kA, Option.getD_some] at hm)) | (refine wl_box (by rfl) rfl (by first | exact idV_cells _ | exact labV_cells _ _ | exact rectV_cells _ _ _ _ | rfl) hm ?_; clear hm; intro b1 w1 hm) | (refine wl_build (by rfl) (built_zeroL) rfl ?_; (try simp only [Act.put, k1, k2, k3]); (try simp only [← labV_eq])) | (refine wl_build (by rfl) (built_lab _ _) rfl ?_; (try simp only [Act.put, k1, k2, k3]); (try simp only [← labV_eq]))); (try simp only [k4, k5, k6, Act.put, k1, k2, k3]))
      go_ret
      exact ⟨by rw [show 64 - 64 = 0 from rfl, Nat.pow_zero, Nat.div_one]; rfl, hm.ext⟩

/-- n bits, filled up with others. -/
def fillV (v x m : Nat) : Nat := v * 2 ^ m + x * (2 ^ m - 1)
theorem fillV_zero (v x : Nat) : fillV v x 0 = v := by simp [fillV]
theorem fillV_succ (v x m : Nat) (hx : x < 2) : fillV v x (m + 1) = 2 * fillV v x m + x := by
  have hp : 0 < 2 ^ m := Nat.pow_pos (by omega)
  unfold fillV
  rw [Nat.pow_succ, ← Nat.mul_assoc]
  generalize 2 ^ m = P at *
  generalize v * P = V at *
  rcases (show x = 0 ∨ x = 1 by omega) with rfl | rfl <;> omega
theorem fill_c (n v x : Nat) (c : ByteArray) (hn : n ≤ 64) (hx : x < 2) (hc : c = bytesB 1 fun _ => 48 + x) (w : World) :
    Calls Try.prog 82 #[.string (txt n v), .string c] w fun e w' => e = .returned (.string (txt 64 (fillV v x (64 - n)))) ∧ Ext w w' := by
  have HC := hid hc
  clear hc
  go_enter Try.func82, Try.ntmps82
  have hm := Mem.refl w []
  go_wp2_with ((first | refine wpList_skip (by rfl) ?_ | (refine wlL (hm := hm) (hu := by first | exact undLabel) (hi := by (try simp only [rowOf_size]); first | exact sizeLabel) (h := ?_); (try simp only [Act.put, k1, k2, k3]); (try simp only [← labV_eq])) | refine wlLC (hm := hm) (hu := by first | exact undInt | exact undU64) (h := ?_) | (refine wlS (hm := hm) (hv := (by first | rfl | exact idV_eq _ | exact labV_eq _ _ | exact rectV_eq _ _ _ _)) (hi := by (try simp only [rowOf_size]); first | exact sizeLabel) (hs := by first | (simp only [rowOf_size]; done) | rfl) (h := ?_); clear hm; intro w1 hm; (try simp only [rowOf_set, k1, k2, k3, Value.cells, Act.eval, k7, k8, k9, kA, Option.getD_some] at hm)) | (refine wlSC (hm := hm) (hi := by first | exact sizeInt | exact sizeU64) (ho := by first | decide | (simp only [rowOf_size]; omega) | (simp; done)) (h := ?_); clear hm; intro w1 hm; (try simp only [rowOf_set, k1, k2, k3, Value.cells, Act.eval, k7, k8, k9, kA, Option.getD_some] at hm)) | (refine wlA (hz := by first | exact zeroLabel) (hm := hm) (h := ?_); clear hm; intro b1 w1 hm; (try simp only [rowOf_set, k1, k2, k3, Value.cells, Act.eval, k7, k8, k9, kA, Option.getD_some] at hm)) | (refine wl_box (by rfl) rfl (by first | exact idV_cells _ | exact labV_cells _ _ | exact rectV_cells _ _ _ _ | rfl) hm ?_; clear hm; intro b1 w1 hm) | (refine wl_build (by rfl) (built_zeroL) rfl ?_; (try simp only [Act.put, k1, k2, k3]); (try simp only [← labV_eq])) | (refine wl_build (by rfl) (built_lab _ _) rfl ?_; (try simp only [Act.put, k1, k2, k3]); (try simp only [← labV_eq]))); (try simp only [k4, k5, k6, Act.put, k1, k2, k3]))
  go_loopw [0] (fun vs wr => ∃ m : Nat, n ≤ m ∧ m ≤ 64 ∧ vs = .string (txt m (fillV v x (m - n))) ∧ Mem w [] [] wr)
    (fun vs _ => 64 - (match vs with | .string s => s.size | _ => 0))
  case atStart => exact ⟨n, Nat.le_refl _, hn, by rw [Nat.sub_self, fillV_zero], hm⟩
  case round =>
    clear hm
    obtain ⟨m, hm1, hm2, rfl, hm⟩ := hrel
    have hsz := txt_size m (fillV v x (m - n))
    have HN := hid (show txt m (fillV v x (m - n)) ++ c = txt (m + 1) (fillV v x (m + 1 - n)) from by
      rw [HC.out, txt_snoc _ _ _ hx, show m + 1 - n = (m - n) + 1 from by omega, fillV_succ _ _ _ hx])
    by_cases h0 : m < 64
    · generalize txt m (fillV v x (m - n)) = s at *
      have hs1 : (s.size : Int) < 64 := by omega
      have hs2 : s.size < 64 := by omega
      have HZ := hid hsz
      have hz : ¬ 9223372036854775807 < s.size + c.size := by rw [HC.out, bytesB_size]; omega
      clear hsz
      go_wp2_with ((first | refine wpList_skip (by rfl) ?_ | (refine wlL (hm := hm) (hu := by first | exact undLabel) (hi := by (try simp only [rowOf_size]); first | exact sizeLabel) (h := ?_); (try simp only [Act.put, k1, k2, k3]); (try simp only [← labV_eq])) | refine wlLC (hm := hm) (hu := by first | exact undInt | exact undU64) (h := ?_) | (refine wlS (hm := hm) (hv := (by first | rfl | exact idV_eq _ | exact labV_eq _ _ | exact rectV_eq _ _ _ _)) (hi := by (try simp only [rowOf_size]); first | exact sizeLabel) (hs := by first | (simp only [rowOf_size]; done) | rfl) (h := ?_); clear hm; intro w1 hm; (try simp only [rowOf_set, k1, k2, k3, Value.cells, Act.eval, k7, k8, k9, kA, Option.getD_some] at hm)) | (refine wlSC (hm := hm) (hi := by first | exact sizeInt | exact sizeU64) (ho := by first | decide | (simp only [rowOf_size]; omega) | (simp; done)) (h := ?_); clear hm; intro w1 hm; (try simp only [rowOf_set, k1, k2, k3, Value.cells, Act.eval, k7, k8, k9, kA, Option.getD_some] at hm)) | (refine wlA (hz := by first | exact zeroLabel) (hm := hm) (h := ?_); clear hm; intro b1 w1 hm; (try simp only [rowOf_set, k1, k2, k3, Value.cells, Act.eval, k7, k8, k9, kA, Option.getD_some] at hm)) | (refine wl_box (by rfl) rfl (by first | exact idV_cells _ | exact labV_cells _ _ | exact rectV_cells _ _ _ _ | rfl) hm ?_; clear hm; intro b1 w1 hm) | (refine wl_build (by rfl) (built_zeroL) rfl ?_; (try simp only [Act.put, k1, k2, k3]); (try simp only [← labV_eq])) | (refine wl_build (by rfl) (built_lab _ _) rfl ?_; (try simp only [Act.put, k1, k2, k3]); (try simp only [← labV_eq]))); (try simp only [k4, k5, k6, Act.put, k1, k2, k3]))
      go_roundw
      case rel => exact ⟨m + 1, by omega, by omega, by rw [HN.out], hm⟩
      case measure =>
        show 64 - (s ++ c).size < 64 - s.size
        have := HZ.out
        rw [HN.out, txt_size]
        omega
    · obtain rfl : m = 64 := by omega
      obtain ⟨s, hs⟩ : ∃ s, txt 64 (fillV v x (64 - n)) = s := ⟨_, rfl⟩
      rw [hs] at hsz ⊢
      have HS := hid hs
      have hs1 : (s.size : Int) = 64 := by omega
      clear hsz hs HN
      go_wp2_with ((first | refine wpList_skip (by rfl) ?_ | (refine wlL (hm := hm) (hu := by first | exact undLabel) (hi := by (try simp only [rowOf_size]); first | exact sizeLabel) (h := ?_); (try simp only [Act.put, k1, k2, k3]); (try simp only [← labV_eq])) | refine wlLC (hm := hm) (hu := by first | exact undInt | exact undU64) (h := ?_) | (refine wlS (hm := hm) (hv := (by first | rfl | exact idV_eq _ | exact labV_eq _ _ | exact rectV_eq _ _ _ _)) (hi := by (try simp only [rowOf_size]); first | exact sizeLabel) (hs := by first | (simp only [rowOf_size]; done) | rfl) (h := ?_); clear hm; intro w1 hm; (try simp only [rowOf_set, k1, k2, k3, Value.cells, Act.eval, k7, k8, k9, kA, Option.getD_some] at hm)) | (refine wlSC (hm := hm) (hi := by first | exact sizeInt | exact sizeU64) (ho := by first | decide | (simp only [rowOf_size]; omega) | (simp; done)) (h := ?_); clear hm; intro w1 hm; (try simp only [rowOf_set, k1, k2, k3, Value.cells, Act.eval, k7, k8, k9, kA, Option.getD_some] at hm)) | (refine wlA (hz := by first | exact zeroLabel) (hm := hm) (h := ?_); clear hm; intro b1 w1 hm; (try simp only [rowOf_set, k1, k2, k3, Value.cells, Act.eval, k7, k8, k9, kA, Option.getD_some] at hm)) | (refine wl_box (by rfl) rfl (by first | exact idV_cells _ | exact labV_cells _ _ | exact rectV_cells _ _ _ _ | rfl) hm ?_; clear hm; intro b1 w1 hm) | (refine wl_build (by rfl) (built_zeroL) rfl ?_; (try simp only [Act.put, k1, k2, k3]); (try simp only [← labV_eq])) | (refine wl_build (by rfl) (built_lab _ _) rfl ?_; (try simp only [Act.put, k1, k2, k3]); (try simp only [← labV_eq]))); (try simp only [k4, k5, k6, Act.put, k1, k2, k3]))
      go_ret
      exact ⟨by rw [HS.out]; rfl, hm.ext⟩
theorem fill0_c (n v : Nat) (hn : n ≤ 64) (w : World) :
    Calls Try.prog 82 #[.string (txt n v), .string { data := #[48] }] w fun e w' => e = .returned (.string (txt 64 (v * 2 ^ (64 - n)))) ∧ Ext w w' := by
  have h := fill_c n v 0 { data := #[48] } hn (by omega) (chr_eq 0 (by omega)) w
  rwa [fillV, Nat.zero_mul, Nat.add_zero] at h
theorem fill1_c (n v : Nat) (hn : n ≤ 64) (w : World) :
    Calls Try.prog 82 #[.string (txt n v), .string { data := #[49] }] w fun e w' => e = .returned (.string (txt 64 (v * 2 ^ (64 - n) + (2 ^ (64 - n) - 1)))) ∧ Ext w w' := by
  have h := fill_c n v 1 { data := #[49] } hn (by omega) (chr_eq 1 (by omega)) w
  rwa [fillV, Nat.one_mul] at h

theorem up_lt (n v : Nat) (hn : n ≤ 64) (hv : v < 2 ^ n) : v * 2 ^ (64 - n) + (2 ^ (64 - n) - 1) < 2 ^ 64 := by
  have hp : 0 < 2 ^ (64 - n) := Nat.pow_pos (by omega)
  have h := Nat.mul_le_mul_right (2 ^ (64 - n)) (show v + 1 ≤ 2 ^ n from hv)
  rw [← Nat.pow_add, show n + (64 - n) = 64 from by omega, Nat.add_mul, Nat.one_mul] at h
  omega
theorem of_c (n v : Nat) (hn : n ≤ 64) (hv : v < 2 ^ n) (w : World) :
    Calls Try.prog 44 #[.string (txt n v)] w fun e w' => e = .returned (labV (n : Int) (v * 2 ^ (64 - n))) ∧ Ext w w' := by
  have hu := up_lt n v hn hv
  have hF : Says 82 _ _ := fill0_c n v hn
  have hN : Says 81 _ _ := number_c (v * 2 ^ (64 - n)) (by omega)
  have hsz := txt_size n v
  generalize txt n v = s at *
  generalize txt 64 (v * 2 ^ (64 - n)) = t at *
  generalize v * 2 ^ (64 - n) = u at *
  clear hu hv
  have hs1 : (s.size : Int) = (n : Int) := by omega
  clear hsz
  go_enter Try.func44, Try.ntmps44
  have hm := Mem.refl w []
  go_wp2_with ((first | refine wpList_skip (by rfl) ?_ | (refine wlL (hm := hm) (hu := by first | exact undLabel) (hi := by (try simp only [rowOf_size]); first | exact sizeLabel) (h := ?_); (try simp only [Act.put, k1, k2, k3]); (try simp only [← labV_eq])) | refine wlLC (hm := hm) (hu := by first | exact undInt | exact undU64) (h := ?_) | (refine wlS (hm := hm) (hv := (by first | rfl | exact idV_eq _ | exact labV_eq _ _ | exact rectV_eq _ _ _ _)) (hi := by (try simp only [rowOf_size]); first | exact sizeLabel) (hs := by first | (simp only [rowOf_size]; done) | rfl) (h := ?_); clear hm; intro w1 hm; (try simp only [rowOf_set, k1, k2, k3, Value.cells, Act.eval, k7, k8, k9, kA, Option.getD_some] at hm)) | (refine wlSC (hm := hm) (hi := by first | exact sizeInt | exact sizeU64) (ho := by first | decide | (simp only [rowOf_size]; omega) | (simp; done)) (h := ?_); clear hm; intro w1 hm; (try simp only [rowOf_set, k1, k2, k3, Value.cells, Act.eval, k7, k8, k9, kA, Option.getD_some] at hm)) | (refine wlA (hz := by first | exact zeroLabel) (hm := hm) (h := ?_); clear hm; intro b1 w1 hm; (try simp only [rowOf_set, k1, k2, k3, Value.cells, Act.eval, k7, k8, k9, kA, Option.getD_some] at hm)) | (refine wl_box (by rfl) rfl (by first | exact idV_cells _ | exact labV_cells _ _ | exact rectV_cells _ _ _ _ | rfl) hm ?_; clear hm; intro b1 w1 hm) | (refine wl_build (by rfl) (built_zeroL) rfl ?_; (try simp only [Act.put, k1, k2, k3]); (try simp only [← labV_eq])) | (refine wl_build (by rfl) (built_lab _ _) rfl ?_; (try simp only [Act.put, k1, k2, k3]); (try simp only [← labV_eq])) | (go_at_call 82; refine (hF _).mono ?_; rintro e w1 ⟨rfl, hx⟩; replace hm := hm.call hx; clear hx) | (go_at_call 81; refine (hN _).mono ?_; rintro e w1 ⟨rfl, hx⟩; replace hm := hm.call hx; clear hx)); (try simp only [k4, k5, k6, Act.put, k1, k2, k3]))
  refine bodyPost_ret (results_cell_row (h := rfl) _ _ _ _ _ _ _ rfl (hm.heap (i := 0) rfl) undLabel rfl (by first | exact sizeLabel | (simp only [rowOf_size]; exact sizeLabel))) rfl ?_
  exact ⟨by simp only [labV_eq]; try rfl, hm.ext⟩

theorem top_lt (n b : Nat) (hn : n ≤ 64) (hb : b < 2 ^ 64) : b / 2 ^ (64 - n) < 2 ^ n := by
  refine Nat.div_lt_of_lt_mul ?_
  rw [← Nat.pow_add, show 64 - n + n = 64 from by omega]; exact hb
theorem refIs_c (len : Int) (b : Nat) (hb : b < 2 ^ 64) (w : World) :
    Calls Try.prog 16 #[labV len b] w fun e w' => e = .returned (.bool (isL len b)) ∧ Ext w w' := by
  by_cases h0 : 0 ≤ len
  · by_cases h64 : len ≤ 64
    · obtain ⟨n, rfl⟩ := Int.eq_ofNat_of_zero_le h0
      have hn : n ≤ 64 := by omega
      have e : isL (n : Int) b = eqLab (n : Int) (hd b n) (n : Int) b := by
        rw [Bool.eq_iff_iff, isL_iff, eqLab, Bool.and_eq_true, beq_iff_eq, beq_iff_eq, Int.toNat_natCast]; exact ⟨fun h => ⟨rfl, h.2.2⟩, fun h => ⟨by omega, by omega, h.2⟩⟩
      rw [e]
      clear e
      have hO : Says 44 _ _ := of_c n (b / 2 ^ (64 - n)) hn (top_lt n b hn hb)
      rw [← hd_eq] at hO
      have hS := slice_to (n := n) (by rw [txt_size]; exact hn) (txt_take 64 n b hn)
      have d0 : decide ((n : Int) < 0) = false := decide_eq_false (by omega)
      have d1 : decide ((64 : Int) < (n : Int)) = false := decide_eq_false (by omega)
      generalize txt n (b / 2 ^ (64 - n)) = t at *
      generalize hd b n = h at *
      clear h0 h64
      go_enter Try.func16, Try.ntmps16
      have hm := Mem.refl w []
      go_wp2_with ((first | refine wpList_skip (by rfl) ?_ | (refine wlL (hm := hm) (hu := by first | exact undLabel) (hi := by (try simp only [rowOf_size]); first | exact sizeLabel) (h := ?_); (try simp only [Act.put, k1, k2, k3]); (try simp only [← labV_eq])) | refine wlLC (hm := hm) (hu := by first | exact undInt | exact undU64) (h := ?_) | (refine wlS (hm := hm) (hv := (by first | rfl | exact idV_eq _ | exact labV_eq _ _ | exact rectV_eq _ _ _ _)) (hi := by (try simp only [rowOf_size]); first | exact sizeLabel) (hs := by first | (simp only [rowOf_size]; done) | rfl) (h := ?_); clear hm; intro w1 hm; (try simp only [rowOf_set, k1, k2, k3, Value.cells, Act.eval, k7, k8, k9, kA, Option.getD_some] at hm)) | (refine wlSC (hm := hm) (hi := by first | exact sizeInt | exact sizeU64) (ho := by first | decide | (simp only [rowOf_size]; omega) | (simp; done)) (h := ?_); clear hm; intro w1 hm; (try simp only [rowOf_set, k1, k2, k3, Value.cells, Act.eval, k7, k8, k9, kA, Option.getD_some] at hm)) | (refine wlA (hz := by first | exact zeroLabel) (hm := hm) (h := ?_); clear hm; intro b1 w1 hm; (try simp only [rowOf_set, k1, k2, k3, Value.cells, Act.eval, k7, k8, k9, kA, Option.getD_some] at hm)) | (refine wl_box (by rfl) rfl (by first | exact idV_cells _ | exact labV_cells _ _ | exact rectV_cells _ _ _ _ | rfl) hm ?_; clear hm; intro b1 w1 hm) | (refine wl_build (by rfl) (built_zeroL) rfl ?_; (try simp only [Act.put, k1, k2, k3]); (try simp only [← labV_eq])) | (refine wl_build (by rfl) (built_lab _ _) rfl ?_; (try simp only [Act.put, k1, k2, k3]); (try simp only [← labV_eq])) | (go_at_call 45; refine (refBits_c _ hb _).mono ?_; rintro e w1 ⟨rfl, hx⟩; replace hm := hm.call hx; clear hx) | (go_at_call 44; refine (hO _).mono ?_; rintro e w1 ⟨rfl, hx⟩; replace hm := hm.call hx; clear hx)); (try simp only [k4, k5, k6, Act.put, k1, k2, k3]))
      go_wp2_with (with_reducible first | refine stAl ?_ | refine stBo ?_ | refine stLo ?_ | refine stSo ?_ | refine stBu ?_ | refine stBs ?_ | refine stMs ?_ | refine stAp ?_ | refine stCo ?_); refine wp_quiet_mem (by kernel_rfl) (by kernel_rfl) hm ?_
      repeat ((first | refine wq_skip (by rfl) ?_ | (refine wqL (hu := by first | exact undLabel) (hi := by (try simp only [rowOf_size]); first | exact sizeLabel) (h := ?_); (try simp only [Act.put, k1, k2, k3]); (try simp only [← labV_eq])) | refine wqLC (hu := by first | exact undInt | exact undU64) (h := ?_) | ((with_reducible show wpQuiet _ _ _ _ (⟨_, .call _, _, _, _, _⟩ :: _) _); refine wq_ask (by rfl) ?_; apply Exists.intro; refine ⟨?_, ?_⟩; (focus (intro w hC; go_simp; first | (go_at_call 45; exact (refBits_c _ hb _).mono fun e w' h => ⟨h.1, hC.call h.2⟩) | (go_at_call 44; exact (hO _).mono fun e w' h => ⟨h.1, hC.call h.2⟩)))) | (refine wq_build (by rfl) (built_zeroL) rfl ?_; (try simp only [Act.put, k1, k2, k3]); (try simp only [← labV_eq])) | (refine wq_build (by rfl) (built_lab _ _) rfl ?_; (try simp only [Act.put, k1, k2, k3]); (try simp only [← labV_eq])) | refine wqS (h := ?_)); (try simp only [k4, k5, k6, Act.put, k1, k2, k3]))
      refine wpQuiet_nil ?_; clear hm; intro w2 hm
      go_wp2_with ((first | refine wpList_skip (by rfl) ?_ | (refine wlL (hm := hm) (hu := by first | exact undLabel) (hi := by (try simp only [rowOf_size]); first | exact sizeLabel) (h := ?_); (try simp only [Act.put, k1, k2, k3]); (try simp only [← labV_eq])) | refine wlLC (hm := hm) (hu := by first | exact undInt | exact undU64) (h := ?_) | (refine wlS (hm := hm) (hv := (by first | rfl | exact idV_eq _ | exact labV_eq _ _ | exact rectV_eq _ _ _ _)) (hi := by (try simp only [rowOf_size]); first | exact sizeLabel) (hs := by first | (simp only [rowOf_size]; done) | rfl) (h := ?_); clear hm; intro w1 hm; (try simp only [rowOf_set, k1, k2, k3, Value.cells, Act.eval, k7, k8, k9, kA, Option.getD_some] at hm)) | (refine wlSC (hm := hm) (hi := by first | exact sizeInt | exact sizeU64) (ho := by first | decide | (simp only [rowOf_size]; omega) | (simp; done)) (h := ?_); clear hm; intro w1 hm; (try simp only [rowOf_set, k1, k2, k3, Value.cells, Act.eval, k7, k8, k9, kA, Option.getD_some] at hm)) | (refine wlA (hz := by first | exact zeroLabel) (hm := hm) (h := ?_); clear hm; intro b1 w1 hm; (try simp only [rowOf_set, k1, k2, k3, Value.cells, Act.eval, k7, k8, k9, kA, Option.getD_some] at hm)) | (refine wl_box (by rfl) rfl (by first | exact idV_cells _ | exact labV_cells _ _ | exact rectV_cells _ _ _ _ | rfl) hm ?_; clear hm; intro b1 w1 hm) | (refine wl_build (by rfl) (built_zeroL) rfl ?_; (try simp only [Act.put, k1, k2, k3]); (try simp only [← labV_eq])) | (refine wl_build (by rfl) (built_lab _ _) rfl ?_; (try simp only [Act.put, k1, k2, k3]); (try simp only [← labV_eq])) | (go_at_call 45; refine (refBits_c _ hb _).mono ?_; rintro e w1 ⟨rfl, hx⟩; replace hm := hm.call hx; clear hx) | (go_at_call 44; refine (hO _).mono ?_; rintro e w1 ⟨rfl, hx⟩; replace hm := hm.call hx; clear hx)); (try simp only [k4, k5, k6, Act.put, k1, k2, k3]))
      go_ret
      exact ⟨rfl, hm.ext⟩
    · have e : isL len b = false := by
        unfold isL; rw [decide_eq_false_iff_not]; omega
      rw [e]
      clear e
      have d0 : decide (len < 0) = false := decide_eq_false (by omega)
      have d1 : decide ((64 : Int) < len) = true := decide_eq_true (by omega)
      have hO : True := trivial
      go_enter Try.func16, Try.ntmps16
      have hm := Mem.refl w []
      go_wp2_with ((first | refine wpList_skip (by rfl) ?_ | (refine wlL (hm := hm) (hu := by first | exact undLabel) (hi := by (try simp only [rowOf_size]); first | exact sizeLabel) (h := ?_); (try simp only [Act.put, k1, k2, k3]); (try simp only [← labV_eq])) | refine wlLC (hm := hm) (hu := by first | exact undInt | exact undU64) (h := ?_) | (refine wlS (hm := hm) (hv := (by first | rfl | exact idV_eq _ | exact labV_eq _ _ | exact rectV_eq _ _ _ _)) (hi := by (try simp only [rowOf_size]); first | exact sizeLabel) (hs := by first | (simp only [rowOf_size]; done) | rfl) (h := ?_); clear hm; intro w1 hm; (try simp only [rowOf_set, k1, k2, k3, Value.cells, Act.eval, k7, k8, k9, kA, Option.getD_some] at hm)) | (refine wlSC (hm := hm) (hi := by first | exact sizeInt | exact sizeU64) (ho := by first | decide | (simp only [rowOf_size]; omega) | (simp; done)) (h := ?_); clear hm; intro w1 hm; (try simp only [rowOf_set, k1, k2, k3, Value.cells, Act.eval, k7, k8, k9, kA, Option.getD_some] at hm)) | (refine wlA (hz := by first | exact zeroLabel) (hm := hm) (h := ?_); clear hm; intro b1 w1 hm; (try simp only [rowOf_set, k1, k2, k3, Value.cells, Act.eval, k7, k8, k9, kA, Option.getD_some] at hm)) | (refine wl_box (by rfl) rfl (by first | exact idV_cells _ | exact labV_cells _ _ | exact rectV_cells _ _ _ _ | rfl) hm ?_; clear hm; intro b1 w1 hm) | (refine wl_build (by rfl) (built_zeroL) rfl ?_; (try simp only [Act.put, k1, k2, k3]); (try simp only [← labV_eq])) | (refine wl_build (by rfl) (built_lab _ _) rfl ?_; (try simp only [Act.put, k1, k2, k3]); (try simp only [← labV_eq]))); (try simp only [k4, k5, k6, Act.put, k1, k2, k3]))
      go_ret
      exact ⟨rfl, hm.ext⟩
  · have e : isL len b = false := by
      unfold isL; rw [decide_eq_false_iff_not]; omega
    rw [e]
    clear e
    have d0 : decide (len < 0) = true := decide_eq_true (by omega)
    go_enter Try.func16, Try.ntmps16
    have hm := Mem.refl w []
    go_wp2_with ((first | refine wpList_skip (by rfl) ?_ | (refine wlL (hm := hm) (hu := by first | exact undLabel) (hi := by (try simp only [rowOf_size]); first | exact sizeLabel) (h := ?_); (try simp only [Act.put, k1, k2, k3]); (try simp only [← labV_eq])) | refine wlLC (hm := hm) (hu := by first | exact undInt | exact undU64) (h := ?_) | (refine wlS (hm := hm) (hv := (by first | rfl | exact idV_eq _ | exact labV_eq _ _ | exact rectV_eq _ _ _ _)) (hi := by (try simp only [rowOf_size]); first | exact sizeLabel) (hs := by first | (simp only [rowOf_size]; done) | rfl) (h := ?_); clear hm; intro w1 hm; (try simp only [rowOf_set, k1, k2, k3, Value.cells, Act.eval, k7, k8, k9, kA, Option.getD_some] at hm)) | (refine wlSC (hm := hm) (hi := by first | exact sizeInt | exact sizeU64) (ho := by first | decide | (simp only [rowOf_size]; omega) | (simp; done)) (h := ?_); clear hm; intro w1 hm; (try simp only [rowOf_set, k1, k2, k3, Value.cells, Act.eval, k7, k8, k9, kA, Option.getD_some] at hm)) | (refine wlA (hz := by first | exact zeroLabel) (hm := hm) (h := ?_); clear hm; intro b1 w1 hm; (try simp only [rowOf_set, k1, k2, k3, Value.cells, Act.eval, k7, k8, k9, kA, Option.getD_some] at hm)) | (refine wl_box (by rfl) rfl (by first | exact idV_cells _ | exact labV_cells _ _ | exact rectV_cells _ _ _ _ | rfl) hm ?_; clear hm; intro b1 w1 hm) | (refine wl_build (by rfl) (built_zeroL) rfl ?_; (try simp only [Act.put, k1, k2, k3]); (try simp only [← labV_eq])) | (refine wl_build (by rfl) (built_lab _ _) rfl ?_; (try simp only [Act.put, k1, k2, k3]); (try simp only [← labV_eq]))); (try simp only [k4, k5, k6, Act.put, k1, k2, k3]))
    go_ret
    exact ⟨rfl, hm.ext⟩

end Go.Proofs.Ytijkmbebfodhdaa
