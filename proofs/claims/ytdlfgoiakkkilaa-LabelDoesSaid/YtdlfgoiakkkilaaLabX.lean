/-
  Labels, continued: the document's Parse of any text, Of, Covers, Within; what both Parse answer.
-/
import Derived.Test.YtdlfgoiakkkilaaLabP
import Derived.Test.YtdlfgoiakkkilaaLabW
namespace Go.Proofs.Ytdlfgoiakkkilaa
open Go.RowKit
set_option linter.unusedSimpArgs false
set_option linter.unusedVariables false
set_option maxHeartbeats 1000000
set_option maxRecDepth 20000
attribute [local irreducible] wpQuiet wpList wpAnyH Calls

theorem refParse_go (s t : ByteArray) (n : Nat) (F : Nat → Nat) (res : Value) (len : Int) (b : Nat) (p : Nat) (hsz : s.size = n + 1) (hn : n ≤ 64) (hI : ∀ k : Nat, k ≤ n → ∀ w, (Instr.index 9 (.string s) (.int .i64 (k : Int))).run Try.prog w = .ok (.int .u8 ((F k : Nat) : Int)) w)
    (h0 : F 0 = 47) (hgood : ∀ j, j < p → F (j + 1) = 48 ∨ F (j + 1) = 49) (hp : p ≤ n) (hend : p < n → (F (p + 1) ≠ 48 ∧ F (p + 1) ≠ 49) ∧ res = .tuple #[labV 0 0, .int .i64 3])
    (hall : p = n → s.extract 1 s.size = t ∧ Says 58 #[.string t] (labV len b) ∧ res = .tuple #[labV len b, .int .i64 0]) : Says 37 #[.string s] res := by
  intro w
  have d0 : decide ((s.size : Int) < 1) = false := decide_eq_false (by omega)
  have d1 : decide ((65 : Int) < (s.size : Int)) = false := decide_eq_false (by omega)
  have d2 : ¬ s.size < 1 := by omega
  have d3 : s.size ≠ 0 := by omega
  have i0 := hI 0 (by omega)
  rw [h0] at i0
  replace i0 : ∀ w, (Instr.index 9 (.string s) (.int .i64 0)).run Try.prog w = .ok (.int .u8 47) w := i0
  have HI := hid hI
  have HG := hid hgood
  have HE := hid hend
  have HA := hid hall
  have HZ := hid hsz
  clear hI hgood hend hall hsz h0
  have hO : True := trivial
  have hk : True := trivial
  go_enter Try.func37, Try.ntmps37
  have hm := Mem.refl w []
  go_wp2_with ((first | refine wpList_skip (by rfl) ?_ | (refine wlL (hm := hm) (hu := by first | exact undLabel) (hi := by (try simp only [rowOf_size]); first | exact sizeLabel) (h := ?_); (try simp only [Act.put, k1, k2, k3]); (try simp only [← labV_eq])) | refine wlLC (hm := hm) (hu := by first | exact undInt | exact undU64) (h := ?_) | (refine wlS (hm := hm) (hv := (by first | rfl | exact idV_eq _ | exact labV_eq _ _ | exact rectV_eq _ _ _ _)) (hi := by (try simp only [rowOf_size]); first | exact sizeLabel) (hs := by first | (simp only [rowOf_size]; done) | rfl) (h := ?_); clear hm; intro w1 hm; (try simp only [rowOf_set, k1, k2, k3, Value.cells, Act.eval, k7, k8, k9, kA, Option.getD_some] at hm)) | (refine wlSC (hm := hm) (hi := by first | exact sizeInt | exact sizeU64) (ho := by first | decide | (simp only [rowOf_size]; omega) | (simp; done)) (h := ?_); clear hm; intro w1 hm; (try simp only [rowOf_set, k1, k2, k3, Value.cells, Act.eval, k7, k8, k9, kA, Option.getD_some] at hm)) | (refine wlA (hz := by first | exact zeroLabel) (hm := hm) (h := ?_); clear hm; intro b1 w1 hm; (try simp only [rowOf_set, k1, k2, k3, Value.cells, Act.eval, k7, k8, k9, kA, Option.getD_some] at hm)) | (refine wl_box (by rfl) rfl (by first | exact idV_cells _ | exact labV_cells _ _ | exact rectV_cells _ _ _ _ | rfl) hm ?_; clear hm; intro b1 w1 hm) | (refine wl_build (by rfl) (built_zeroL) rfl ?_; (try simp only [Act.put, k1, k2, k3]); (try simp only [← labV_eq])) | (refine wl_build (by rfl) (built_lab _ _) rfl ?_; (try simp only [Act.put, k1, k2, k3]); (try simp only [← labV_eq]))); (try simp only [k4, k5, k6, Act.put, k1, k2, k3]))
  clear i0 d0 d1 d2 d3
  go_loopw [4] (fun vi wr => ∃ k : Nat, k ≤ p ∧ vi = .int .i64 ((k + 1 : Nat) : Int) ∧ Mem w [] [(b1, .cells #[.int .i64 0, .int .u64 0] 24 (0, 0))] wr)
    (fun vi _ => (n + 1 - intOf vi).toNat)
  case atStart => exact ⟨0, by omega, rfl, hm⟩
  case round =>
    clear hm
    obtain ⟨k, hkp, rfl, hm⟩ := hrel
    obtain ⟨i, hi⟩ : ∃ i, k + 1 = i := ⟨_, rfl⟩
    rw [hi]
    by_cases hkn : k < n
    · have d4 : decide (i < s.size) = true := decide_eq_true (by have := HZ.out; omega)
      have d5 : i < s.size := by have := HZ.out; omega
      have ii := HI.out i (by omega)
      have w1 : IntKind.i64.wrap ((i : Int) + 1) = (i : Int) + 1 := wrap_i64 (by omega) (by omega)
      by_cases hk2 : k < p
      · have hg := HG.out k hk2
        rw [hi] at hg
        obtain ⟨c, hc⟩ : ∃ c, F i = c := ⟨_, rfl⟩
        rw [hc] at hg ii
        clear hc
        rcases hg with rfl | rfl
        · go_wp2_with ((first | refine wpList_skip (by rfl) ?_ | (refine wlL (hm := hm) (hu := by first | exact undLabel) (hi := by (try simp only [rowOf_size]); first | exact sizeLabel) (h := ?_); (try simp only [Act.put, k1, k2, k3]); (try simp only [← labV_eq])) | refine wlLC (hm := hm) (hu := by first | exact undInt | exact undU64) (h := ?_) | (refine wlS (hm := hm) (hv := (by first | rfl | exact idV_eq _ | exact labV_eq _ _ | exact rectV_eq _ _ _ _)) (hi := by (try simp only [rowOf_size]); first | exact sizeLabel) (hs := by first | (simp only [rowOf_size]; done) | rfl) (h := ?_); clear hm; intro w1 hm; (try simp only [rowOf_set, k1, k2, k3, Value.cells, Act.eval, k7, k8, k9, kA, Option.getD_some] at hm)) | (refine wlSC (hm := hm) (hi := by first | exact sizeInt | exact sizeU64) (ho := by first | decide | (simp only [rowOf_size]; omega) | (simp; done)) (h := ?_); clear hm; intro w1 hm; (try simp only [rowOf_set, k1, k2, k3, Value.cells, Act.eval, k7, k8, k9, kA, Option.getD_some] at hm)) | (refine wlA (hz := by first | exact zeroLabel) (hm := hm) (h := ?_); clear hm; intro b1 w1 hm; (try simp only [rowOf_set, k1, k2, k3, Value.cells, Act.eval, k7, k8, k9, kA, Option.getD_some] at hm)) | (refine wl_box (by rfl) rfl (by first | exact idV_cells _ | exact labV_cells _ _ | exact rectV_cells _ _ _ _ | rfl) hm ?_; clear hm; intro b1 w1 hm) | (refine wl_build (by rfl) (built_zeroL) rfl ?_; (try simp only [Act.put, k1, k2, k3]); (try simp only [← labV_eq])) | (refine wl_build (by rfl) (built_lab _ _) rfl ?_; (try simp only [Act.put, k1, k2, k3]); (try simp only [← labV_eq]))); (try simp only [k4, k5, k6, Act.put, k1, k2, k3]))
          go_roundw
          case rel => exact ⟨k + 1, by omega, by rw [← hi]; go_num, hm⟩
          case measure => (simp [intOf]; try omega)
        · go_wp2_with ((first | refine wpList_skip (by rfl) ?_ | (refine wlL (hm := hm) (hu := by first | exact undLabel) (hi := by (try simp only [rowOf_size]); first | exact sizeLabel) (h := ?_); (try simp only [Act.put, k1, k2, k3]); (try simp only [← labV_eq])) | refine wlLC (hm := hm) (hu := by first | exact undInt | exact undU64) (h := ?_) | (refine wlS (hm := hm) (hv := (by first | rfl | exact idV_eq _ | exact labV_eq _ _ | exact rectV_eq _ _ _ _)) (hi := by (try simp only [rowOf_size]); first | exact sizeLabel) (hs := by first | (simp only [rowOf_size]; done) | rfl) (h := ?_); clear hm; intro w1 hm; (try simp only [rowOf_set, k1, k2, k3, Value.cells, Act.eval, k7, k8, k9, kA, Option.getD_some] at hm)) | (refine wlSC (hm := hm) (hi := by first | exact sizeInt | exact sizeU64) (ho := by first | decide | (simp only [rowOf_size]; omega) | (simp; done)) (h := ?_); clear hm; intro w1 hm; (try simp only [rowOf_set, k1, k2, k3, Value.cells, Act.eval, k7, k8, k9, kA, Option.getD_some] at hm)) | (refine wlA (hz := by first | exact zeroLabel) (hm := hm) (h := ?_); clear hm; intro b1 w1 hm; (try simp only [rowOf_set, k1, k2, k3, Value.cells, Act.eval, k7, k8, k9, kA, Option.getD_some] at hm)) | (refine wl_box (by rfl) rfl (by first | exact idV_cells _ | exact labV_cells _ _ | exact rectV_cells _ _ _ _ | rfl) hm ?_; clear hm; intro b1 w1 hm) | (refine wl_build (by rfl) (built_zeroL) rfl ?_; (try simp only [Act.put, k1, k2, k3]); (try simp only [← labV_eq])) | (refine wl_build (by rfl) (built_lab _ _) rfl ?_; (try simp only [Act.put, k1, k2, k3]); (try simp only [← labV_eq]))); (try simp only [k4, k5, k6, Act.put, k1, k2, k3]))
          go_roundw
          case rel => exact ⟨k + 1, by omega, by rw [← hi]; go_num, hm⟩
          case measure => (simp [intOf]; try omega)
      · obtain rfl : k = p := by omega
        obtain ⟨⟨e1, e2⟩, e3⟩ := HE.out hkn
        rw [hi] at e1 e2
        obtain ⟨c, hc⟩ : ∃ c, F i = c := ⟨_, rfl⟩
        rw [hc] at e1 e2 ii
        have c1 : ((c : Int) == 48) = false := by rw [beq_eq_false_iff_ne]; omega
        have c2 : ((c : Int) == 49) = false := by rw [beq_eq_false_iff_ne]; omega
        have c3 : ((c : Int) != 48) = true := by rw [bne_iff_ne]; omega
        have c4 : ((c : Int) != 49) = true := by rw [bne_iff_ne]; omega
        have H3 := hid e3
        clear hc e1 e2 e3
        go_wp2_with ((first | refine wpList_skip (by rfl) ?_ | (refine wlL (hm := hm) (hu := by first | exact undLabel) (hi := by (try simp only [rowOf_size]); first | exact sizeLabel) (h := ?_); (try simp only [Act.put, k1, k2, k3]); (try simp only [← labV_eq])) | refine wlLC (hm := hm) (hu := by first | exact undInt | exact undU64) (h := ?_) | (refine wlS (hm := hm) (hv := (by first | rfl | exact idV_eq _ | exact labV_eq _ _ | exact rectV_eq _ _ _ _)) (hi := by (try simp only [rowOf_size]); first | exact sizeLabel) (hs := by first | (simp only [rowOf_size]; done) | rfl) (h := ?_); clear hm; intro w1 hm; (try simp only [rowOf_set, k1, k2, k3, Value.cells, Act.eval, k7, k8, k9, kA, Option.getD_some] at hm)) | (refine wlSC (hm := hm) (hi := by first | exact sizeInt | exact sizeU64) (ho := by first | decide | (simp only [rowOf_size]; omega) | (simp; done)) (h := ?_); clear hm; intro w1 hm; (try simp only [rowOf_set, k1, k2, k3, Value.cells, Act.eval, k7, k8, k9, kA, Option.getD_some] at hm)) | (refine wlA (hz := by first | exact zeroLabel) (hm := hm) (h := ?_); clear hm; intro b1 w1 hm; (try simp only [rowOf_set, k1, k2, k3, Value.cells, Act.eval, k7, k8, k9, kA, Option.getD_some] at hm)) | (refine wl_box (by rfl) rfl (by first | exact idV_cells _ | exact labV_cells _ _ | exact rectV_cells _ _ _ _ | rfl) hm ?_; clear hm; intro b1 w1 hm) | (refine wl_build (by rfl) (built_zeroL) rfl ?_; (try simp only [Act.put, k1, k2, k3]); (try simp only [← labV_eq])) | (refine wl_build (by rfl) (built_lab _ _) rfl ?_; (try simp only [Act.put, k1, k2, k3]); (try simp only [← labV_eq]))); (try simp only [k4, k5, k6, Act.put, k1, k2, k3]))
        refine bodyPost_ret (results_row_tmp (h := rfl) _ _ _ _ _ _ _ rfl (hm.heap (i := 0) rfl) undLabel rfl (by first | exact sizeLabel | (simp only [rowOf_size]; exact sizeLabel))) rfl ?_
        exact ⟨by rw [H3.out]; simp only [labV_eq]; try rfl, hm.ext⟩
    · have hpn : p = n := by omega
      obtain ⟨e1, hO, e3⟩ := HA.out hpn
      have d4 : decide (i < s.size) = false := decide_eq_false (by have := HZ.out; omega)
      have d5 : ¬ i < s.size := by have := HZ.out; omega
      have hS : ∀ w, (Instr.slice 9 (.string s) (some (.int .i64 1)) none none).run Try.prog w = .ok (.string t) w := slice_from (n := 1) (by have := HZ.out; omega) e1
      have H3 := hid e3
      clear e1 e3
      go_wp2_with ((first | refine wpList_skip (by rfl) ?_ | (refine wlL (hm := hm) (hu := by first | exact undLabel) (hi := by (try simp only [rowOf_size]); first | exact sizeLabel) (h := ?_); (try simp only [Act.put, k1, k2, k3]); (try simp only [← labV_eq])) | refine wlLC (hm := hm) (hu := by first | exact undInt | exact undU64) (h := ?_) | (refine wlS (hm := hm) (hv := (by first | rfl | exact idV_eq _ | exact labV_eq _ _ | exact rectV_eq _ _ _ _)) (hi := by (try simp only [rowOf_size]); first | exact sizeLabel) (hs := by first | (simp only [rowOf_size]; done) | rfl) (h := ?_); clear hm; intro w1 hm; (try simp only [rowOf_set, k1, k2, k3, Value.cells, Act.eval, k7, k8, k9, kA, Option.getD_some] at hm)) | (refine wlSC (hm := hm) (hi := by first | exact sizeInt | exact sizeU64) (ho := by first | decide | (simp only [rowOf_size]; omega) | (simp; done)) (h := ?_); clear hm; intro w1 hm; (try simp only [rowOf_set, k1, k2, k3, Value.cells, Act.eval, k7, k8, k9, kA, Option.getD_some] at hm)) | (refine wlA (hz := by first | exact zeroLabel) (hm := hm) (h := ?_); clear hm; intro b1 w1 hm; (try simp only [rowOf_set, k1, k2, k3, Value.cells, Act.eval, k7, k8, k9, kA, Option.getD_some] at hm)) | (refine wl_box (by rfl) rfl (by first | exact idV_cells _ | exact labV_cells _ _ | exact rectV_cells _ _ _ _ | rfl) hm ?_; clear hm; intro b1 w1 hm) | (refine wl_build (by rfl) (built_zeroL) rfl ?_; (try simp only [Act.put, k1, k2, k3]); (try simp only [← labV_eq])) | (refine wl_build (by rfl) (built_lab _ _) rfl ?_; (try simp only [Act.put, k1, k2, k3]); (try simp only [← labV_eq])) | (go_at_call 58; refine (hO _).mono ?_; rintro e w1 ⟨rfl, hx⟩; replace hm := hm.call hx; clear hx) | (go_at_call 65; refine (refBits_c _ hk _).mono ?_; rintro e w1 ⟨rfl, hx⟩; replace hm := hm.call hx; clear hx)); (try simp only [k4, k5, k6, Act.put, k1, k2, k3]))
      refine bodyPost_ret (results_row_tmp (h := rfl) _ _ _ _ _ _ _ rfl (hm.heap (i := 0) rfl) undLabel rfl (by first | exact sizeLabel | (simp only [rowOf_size]; exact sizeLabel))) rfl ?_
      exact ⟨by rw [H3.out]; simp only [labV_eq]; try rfl, hm.ext⟩

/-! ### What both answer at any text -/
def bv (s : ByteArray) (i : Nat) : Nat := ((s.data.toList[i]?).getD 0).toNat
theorem bv_lt (s : ByteArray) (i : Nat) : bv s i < 256 := by unfold bv; exact UInt8.toNat_lt _
theorem bv_get (s : ByteArray) (i : Nat) (h : i < s.size) : s.data.toList[i]? = some (UInt8.ofNat (bv s i)) := by
  have h' : i < s.data.toList.length := by rw [Array.length_toList]; exact h
  unfold bv
  rw [List.getElem?_eq_getElem h', Option.getD_some, UInt8.ofNat_toNat]
theorem bv_at (s : ByteArray) (i : Nat) (h : i < s.size) : (s[i]'h).toNat = bv s i := by
  have h1 : s.data.toList[i]? = some (s[i]'h) := by rw [Array.getElem?_toList]; exact Array.getElem?_eq_getElem h
  unfold bv
  rw [h1, Option.getD_some]
theorem bv_eq (s : ByteArray) : s = bytesB s.size (bv s) := bytes_of s
theorem bv_bytes (n : Nat) (f : Nat → Nat) (i : Nat) (h : i < n) (hf : f i < 256) : bv (bytesB n f) i = f i := by
  unfold bv
  rw [bytesB_get h, Option.getD_some]
  simp only [UInt8.toNat_ofNat']
  omega
theorem txt_acc (f : Nat → Nat) : ∀ k, k ≤ 64 → (∀ j, j < k → f j = 48 ∨ f j = 49) → bytesB k f = txt k (accB f k / 2 ^ (64 - k))
  | 0, _, _ => by rw [txt_nil]; unfold bytesB; rfl
  | k + 1, hk, hf => by
    have ih := txt_acc f k (by omega) fun j hj => hf j (by omega)
    obtain ⟨h0, _⟩ := accB_ok f k (by omega)
    have hp : 0 < 2 ^ (63 - k) := Nat.pow_pos (by omega)
    have e : 2 ^ (64 - k) = 2 ^ (63 - k) * 2 := by rw [show 64 - k = 63 - k + 1 from by omega, Nat.pow_succ]
    have hpush : bytesB (k + 1) f = bytesB k f ++ bytesB 1 fun _ => f k := by
      rw [bytesB_append]
      refine bytesB_congr fun i hi => ?_
      split
      · rfl
      · rw [show i = k from by omega]
    rw [hpush, ih]
    obtain ⟨q, hq⟩ : ∃ q, accB f k = 2 ^ (63 - k) * (2 * q) := by
      rw [e] at h0
      refine ⟨accB f k / (2 ^ (63 - k) * 2), ?_⟩
      rw [← Nat.mul_assoc]
      exact (Nat.mul_div_cancel' (Nat.dvd_of_mod_eq_zero h0)).symm
    have hq1 : accB f k / 2 ^ (64 - k) = q := by
      rw [hq, e, ← Nat.mul_assoc, Nat.mul_div_cancel_left _ (by omega)]
    rw [hq1, show 64 - (k + 1) = 63 - k from by omega, accB]
    rcases hf k (by omega) with h | h
    · rw [h, if_neg (by decide), hq, Nat.mul_div_cancel_left _ hp]
      exact txt_snoc k q 0 (by omega)
    · rw [h, if_pos rfl, kid_eq, hq, show 2 ^ (63 - k) * (2 * q) + 2 ^ (63 - k) = 2 ^ (63 - k) * (2 * q + 1) from by rw [Nat.mul_add, Nat.mul_one], Nat.mul_div_cancel_left _ hp]
      exact txt_snoc k q 1 (by omega)

theorem parse_any (s : ByteArray) : ∃ (len : Int) (b : Nat) (e : Int), Says 18 #[.string s] (.tuple #[labV len b, .int .i64 e]) ∧ Says 37 #[.string s] (.tuple #[labV len b, .int .i64 e]) := by
  by_cases h0 : s.size = 0
  · refine ⟨0, 0, 3, parse_no s ?_, refParse_empty s h0⟩
    have : s.data.toList = [] := List.eq_nil_of_length_eq_zero (by rw [Array.length_toList]; exact h0)
    rw [this]; rfl
  · have hI : ∀ k : Nat, k < s.size → ∀ w, (Instr.index 9 (.string s) (.int .i64 (k : Int))).run Try.prog w = .ok (.int .u8 ((bv s k : Nat) : Int)) w := fun k hk => run_indexS (bv_get s k hk) (bv_lt s k)
    have hfst : s.data.toList[0]? = some (UInt8.ofNat (bv s 0)) := bv_get s 0 (by omega)
    have hpx : Lib.hasPrefix s.data.toList [47] = decide (bv s 0 = 47) := by
      cases hl : s.data.toList with
      | nil => rw [hl] at hfst; simp at hfst
      | cons x r =>
        rw [hl] at hfst
        simp only [List.getElem?_cons_zero, Option.some.injEq] at hfst
        have hx : x.toNat = bv s 0 := by
          rw [hfst]; simp only [UInt8.toNat_ofNat']; have := bv_lt s 0; omega
        unfold Lib.hasPrefix
        rw [Bool.eq_iff_iff, decide_eq_true_iff, ← hx]
        simp only [List.isPrefixOf, Bool.and_true, beq_iff_eq]
        constructor
        · intro h; rw [← h]; rfl
        · intro h; exact (UInt8.toNat_inj.1 (show x.toNat = (47 : UInt8).toNat from h)).symm
    by_cases h47 : bv s 0 = 47
    · have hs : s.extract 0 1 = { data := #[47] } := by
        rw [bv_eq s, bytesB_take _ _ _ (by omega), show bytesB 1 (bv s) = bytesB 1 (fun _ => 47) from bytesB_congr fun i hi => by rw [show i = 0 from by omega, h47]]
        unfold bytesB; rfl
      obtain ⟨n, hn⟩ : ∃ n, s.size = n + 1 := ⟨s.size - 1, by omega⟩
      obtain ⟨t, ht⟩ : ∃ t, s.extract 1 s.size = t := ⟨_, rfl⟩
      have htb : t = bytesB n fun i => bv s (1 + i) := by
        rw [← ht]
        have := bytesB_drop s.size 1 (bv s) (by omega)
        rw [← bv_eq s] at this
        rw [this, hn]; rfl
      have htz : t.size = n := by rw [htb, bytesB_size]
      by_cases h65 : 65 < s.size
      · exact ⟨0, 0, 3, parse_long s t hs ht (by omega) (by omega), refParse_long s h65⟩
      · have hf : ∀ j (h : j < t.size), (t[j]'h).toNat = bv s (j + 1) := fun j h => by
          rw [bv_at, htb, bv_bytes n (fun i => bv s (1 + i)) j (by omega) (bv_lt _ _), Nat.add_comm]
        by_cases hgood : ∀ j, j < n → bv s (j + 1) = 48 ∨ bv s (j + 1) = 49
        · have hacc := txt_acc (fun j => bv s (j + 1)) n (by omega) hgood
          have ht2 : t = txt n (accB (fun j => bv s (j + 1)) n / 2 ^ (64 - n)) := by
            rw [← hacc, htb]
            exact bytesB_congr fun i _ => by rw [Nat.add_comm]
          have hok := accB_ok (fun j => bv s (j + 1)) n (by omega)
          have hOf : Says 58 _ _ := of_c n (accB (fun j => bv s (j + 1)) n / 2 ^ (64 - n)) (by omega) (top_lt n _ (by omega) hok.2)
          rw [← ht2, top_mul n _ hok.1] at hOf
          have hP : Says 18 _ _ := parse_ok s t (fun j => bv s (j + 1)) hs ht (by omega) (by omega) hf (fun j hj => hgood j (by omega))
          rw [htz] at hP
          exact ⟨n, _, 0, hP, refParse_go s t n (bv s) _ _ _ n hn (by omega) (fun k hk => hI k (by omega)) h47 hgood (Nat.le_refl _) (fun h => absurd h (Nat.lt_irrefl _)) (fun _ => ⟨ht, hOf, rfl⟩)⟩
        · have hex : ∃ p, p < n ∧ (bv s (p + 1) ≠ 48 ∧ bv s (p + 1) ≠ 49) ∧ ∀ j, j < p → bv s (j + 1) = 48 ∨ bv s (j + 1) = 49 := by
            have hne : ∃ p, p < n ∧ (bv s (p + 1) ≠ 48 ∧ bv s (p + 1) ≠ 49) := by
              apply Decidable.byContradiction
              intro hno
              exact hgood fun j hj => by
                by_cases h1 : bv s (j + 1) = 48
                · exact Or.inl h1
                · by_cases h2 : bv s (j + 1) = 49
                  · exact Or.inr h2
                  · exact (hno ⟨j, hj, h1, h2⟩).elim
            obtain ⟨p, hp, hb⟩ := hne
            induction p using Nat.strongRecOn with
            | ind p ih =>
              by_cases hlow : ∃ q, q < p ∧ (bv s (q + 1) ≠ 48 ∧ bv s (q + 1) ≠ 49)
              · obtain ⟨q, hq, hbq⟩ := hlow
                exact ih q hq (by omega) hbq
              · refine ⟨p, hp, hb, fun j hj => ?_⟩
                by_cases h1 : bv s (j + 1) = 48
                · exact Or.inl h1
                · by_cases h2 : bv s (j + 1) = 49
                  · exact Or.inr h2
                  · exact (hlow ⟨j, hj, h1, h2⟩).elim
          obtain ⟨p, hp, hb, hlow⟩ := hex
          exact ⟨0, 0, 3, parse_bad s t (fun j => bv s (j + 1)) p hs ht (by omega) (by omega) (by omega) hf hlow hb, refParse_go s t n (bv s) _ 0 0 p hn (by omega) (fun k hk => hI k (by omega)) h47 hlow (by omega) (fun _ => ⟨hb, rfl⟩) (fun h => by omega)⟩
    · have hx : Lib.hasPrefix s.data.toList [47] = false := by rw [hpx]; exact decide_eq_false h47
      refine ⟨0, 0, 3, parse_no s hx, ?_⟩
      by_cases h65 : 65 < s.size
      · exact refParse_long s h65
      · exact refParse_first s (bv s 0) (by omega) (by omega) (hI 0 (by omega)) h47

/-! ### Of, Covers, Within -/
theorem refOf_arg (key n : Int) (h : n < 0 ∨ 64 < n) : Says 36 #[.int .u64 key, .int .i64 n] (.tuple #[labV 0 0, .int .i64 1]) := by
  intro w
  by_cases h0 : n < 0
  · have d0 : decide (n < 0) = true := decide_eq_true h0
    go_enter Try.func36, Try.ntmps36
    have hm := Mem.refl w []
    go_wp2_with ((first | refine wpList_skip (by rfl) ?_ | (refine wlL (hm := hm) (hu := by first | exact undLabel) (hi := by (try simp only [rowOf_size]); first | exact sizeLabel) (h := ?_); (try simp only [Act.put, k1, k2, k3]); (try simp only [← labV_eq])) | refine wlLC (hm := hm) (hu := by first | exact undInt | exact undU64) (h := ?_) | (refine wlS (hm := hm) (hv := (by first | rfl | exact idV_eq _ | exact labV_eq _ _ | exact rectV_eq _ _ _ _)) (hi := by (try simp only [rowOf_size]); first | exact sizeLabel) (hs := by first | (simp only [rowOf_size]; done) | rfl) (h := ?_); clear hm; intro w1 hm; (try simp only [rowOf_set, k1, k2, k3, Value.cells, Act.eval, k7, k8, k9, kA, Option.getD_some] at hm)) | (refine wlSC (hm := hm) (hi := by first | exact sizeInt | exact sizeU64) (ho := by first | decide | (simp only [rowOf_size]; omega) | (simp; done)) (h := ?_); clear hm; intro w1 hm; (try simp only [rowOf_set, k1, k2, k3, Value.cells, Act.eval, k7, k8, k9, kA, Option.getD_some] at hm)) | (refine wlA (hz := by first | exact zeroLabel) (hm := hm) (h := ?_); clear hm; intro b1 w1 hm; (try simp only [rowOf_set, k1, k2, k3, Value.cells, Act.eval, k7, k8, k9, kA, Option.getD_some] at hm)) | (refine wl_box (by rfl) rfl (by first | exact idV_cells _ | exact labV_cells _ _ | exact rectV_cells _ _ _ _ | rfl) hm ?_; clear hm; intro b1 w1 hm) | (refine wl_build (by rfl) (built_zeroL) rfl ?_; (try simp only [Act.put, k1, k2, k3]); (try simp only [← labV_eq])) | (refine wl_build (by rfl) (built_lab _ _) rfl ?_; (try simp only [Act.put, k1, k2, k3]); (try simp only [← labV_eq]))); (try simp only [k4, k5, k6, Act.put, k1, k2, k3]))
    refine bodyPost_ret (results_row_tmp (h := rfl) _ _ _ _ _ _ _ rfl (hm.heap (i := 0) rfl) undLabel rfl (by first | exact sizeLabel | (simp only [rowOf_size]; exact sizeLabel))) rfl ?_
    exact ⟨by simp only [labV_eq]; try rfl, hm.ext⟩
  · have d0 : decide (n < 0) = false := decide_eq_false h0
    have d1 : decide (64 < n) = true := decide_eq_true (by omega)
    clear h
    go_enter Try.func36, Try.ntmps36
    have hm := Mem.refl w []
    go_wp2_with ((first | refine wpList_skip (by rfl) ?_ | (refine wlL (hm := hm) (hu := by first | exact undLabel) (hi := by (try simp only [rowOf_size]); first | exact sizeLabel) (h := ?_); (try simp only [Act.put, k1, k2, k3]); (try simp only [← labV_eq])) | refine wlLC (hm := hm) (hu := by first | exact undInt | exact undU64) (h := ?_) | (refine wlS (hm := hm) (hv := (by first | rfl | exact idV_eq _ | exact labV_eq _ _ | exact rectV_eq _ _ _ _)) (hi := by (try simp only [rowOf_size]); first | exact sizeLabel) (hs := by first | (simp only [rowOf_size]; done) | rfl) (h := ?_); clear hm; intro w1 hm; (try simp only [rowOf_set, k1, k2, k3, Value.cells, Act.eval, k7, k8, k9, kA, Option.getD_some] at hm)) | (refine wlSC (hm := hm) (hi := by first | exact sizeInt | exact sizeU64) (ho := by first | decide | (simp only [rowOf_size]; omega) | (simp; done)) (h := ?_); clear hm; intro w1 hm; (try simp only [rowOf_set, k1, k2, k3, Value.cells, Act.eval, k7, k8, k9, kA, Option.getD_some] at hm)) | (refine wlA (hz := by first | exact zeroLabel) (hm := hm) (h := ?_); clear hm; intro b1 w1 hm; (try simp only [rowOf_set, k1, k2, k3, Value.cells, Act.eval, k7, k8, k9, kA, Option.getD_some] at hm)) | (refine wl_box (by rfl) rfl (by first | exact idV_cells _ | exact labV_cells _ _ | exact rectV_cells _ _ _ _ | rfl) hm ?_; clear hm; intro b1 w1 hm) | (refine wl_build (by rfl) (built_zeroL) rfl ?_; (try simp only [Act.put, k1, k2, k3]); (try simp only [← labV_eq])) | (refine wl_build (by rfl) (built_lab _ _) rfl ?_; (try simp only [Act.put, k1, k2, k3]); (try simp only [← labV_eq]))); (try simp only [k4, k5, k6, Act.put, k1, k2, k3]))
    refine bodyPost_ret (results_row_tmp (h := rfl) _ _ _ _ _ _ _ rfl (hm.heap (i := 0) rfl) undLabel rfl (by first | exact sizeLabel | (simp only [rowOf_size]; exact sizeLabel))) rfl ?_
    exact ⟨by simp only [labV_eq]; try rfl, hm.ext⟩
theorem refOf_ok (key n : Nat) (hk : key < 2 ^ 64) (hn : n ≤ 64) : Says 36 #[.int .u64 (key : Int), .int .i64 (n : Int)] (.tuple #[labV (n : Int) (hd key n), .int .i64 0]) := by
  intro w
  have d0 : decide ((n : Int) < 0) = false := decide_eq_false (by omega)
  have d1 : decide (64 < (n : Int)) = false := decide_eq_false (by omega)
  have hO : Says 58 _ _ := of_c n (key / 2 ^ (64 - n)) hn (top_lt n key hn hk)
  rw [← hd_eq] at hO
  have hS := slice_to (n := n) (by rw [txt_size]; exact hn) (txt_take 64 n key hn)
  generalize txt n (key / 2 ^ (64 - n)) = t at *
  generalize hd key n = h at *
  go_enter Try.func36, Try.ntmps36
  have hm := Mem.refl w []
  go_wp2_with ((first | refine wpList_skip (by rfl) ?_ | (refine wlL (hm := hm) (hu := by first | exact undLabel) (hi := by (try simp only [rowOf_size]); first | exact sizeLabel) (h := ?_); (try simp only [Act.put, k1, k2, k3]); (try simp only [← labV_eq])) | refine wlLC (hm := hm) (hu := by first | exact undInt | exact undU64) (h := ?_) | (refine wlS (hm := hm) (hv := (by first | rfl | exact idV_eq _ | exact labV_eq _ _ | exact rectV_eq _ _ _ _)) (hi := by (try simp only [rowOf_size]); first | exact sizeLabel) (hs := by first | (simp only [rowOf_size]; done) | rfl) (h := ?_); clear hm; intro w1 hm; (try simp only [rowOf_set, k1, k2, k3, Value.cells, Act.eval, k7, k8, k9, kA, Option.getD_some] at hm)) | (refine wlSC (hm := hm) (hi := by first | exact sizeInt | exact sizeU64) (ho := by first | decide | (simp only [rowOf_size]; omega) | (simp; done)) (h := ?_); clear hm; intro w1 hm; (try simp only [rowOf_set, k1, k2, k3, Value.cells, Act.eval, k7, k8, k9, kA, Option.getD_some] at hm)) | (refine wlA (hz := by first | exact zeroLabel) (hm := hm) (h := ?_); clear hm; intro b1 w1 hm; (try simp only [rowOf_set, k1, k2, k3, Value.cells, Act.eval, k7, k8, k9, kA, Option.getD_some] at hm)) | (refine wl_box (by rfl) rfl (by first | exact idV_cells _ | exact labV_cells _ _ | exact rectV_cells _ _ _ _ | rfl) hm ?_; clear hm; intro b1 w1 hm) | (refine wl_build (by rfl) (built_zeroL) rfl ?_; (try simp only [Act.put, k1, k2, k3]); (try simp only [← labV_eq])) | (refine wl_build (by rfl) (built_lab _ _) rfl ?_; (try simp only [Act.put, k1, k2, k3]); (try simp only [← labV_eq])) | (go_at_call 58; refine (hO _).mono ?_; rintro e w1 ⟨rfl, hx⟩; replace hm := hm.call hx; clear hx) | (go_at_call 65; refine (refBits_c _ hk _).mono ?_; rintro e w1 ⟨rfl, hx⟩; replace hm := hm.call hx; clear hx)); (try simp only [k4, k5, k6, Act.put, k1, k2, k3]))
  refine bodyPost_ret (results_row_tmp (h := rfl) _ _ _ _ _ _ _ rfl (hm.heap (i := 0) rfl) undLabel rfl (by first | exact sizeLabel | (simp only [rowOf_size]; exact sizeLabel))) rfl ?_
  exact ⟨by simp only [labV_eq]; try rfl, hm.ext⟩
theorem refCovers_false (len : Int) (b : Nat) (key : Int) (hl : isL len b = false) (hb : b < 2 ^ 64) : Says 38 #[labV len b, .int .u64 key] (.bool false) := by
  intro w
  have hI := refIs_of len b false hb hl
  have hB : True := trivial
  have hk : True := trivial
  go_enter Try.func38, Try.ntmps38
  have hm := Mem.refl w []
  go_wp2_with ((first | refine wpList_skip (by rfl) ?_ | (refine wlL (hm := hm) (hu := by first | exact undLabel) (hi := by (try simp only [rowOf_size]); first | exact sizeLabel) (h := ?_); (try simp only [Act.put, k1, k2, k3]); (try simp only [← labV_eq])) | refine wlLC (hm := hm) (hu := by first | exact undInt | exact undU64) (h := ?_) | (refine wlS (hm := hm) (hv := (by first | rfl | exact idV_eq _ | exact labV_eq _ _ | exact rectV_eq _ _ _ _)) (hi := by (try simp only [rowOf_size]); first | exact sizeLabel) (hs := by first | (simp only [rowOf_size]; done) | rfl) (h := ?_); clear hm; intro w1 hm; (try simp only [rowOf_set, k1, k2, k3, Value.cells, Act.eval, k7, k8, k9, kA, Option.getD_some] at hm)) | (refine wlSC (hm := hm) (hi := by first | exact sizeInt | exact sizeU64) (ho := by first | decide | (simp only [rowOf_size]; omega) | (simp; done)) (h := ?_); clear hm; intro w1 hm; (try simp only [rowOf_set, k1, k2, k3, Value.cells, Act.eval, k7, k8, k9, kA, Option.getD_some] at hm)) | (refine wlA (hz := by first | exact zeroLabel) (hm := hm) (h := ?_); clear hm; intro b1 w1 hm; (try simp only [rowOf_set, k1, k2, k3, Value.cells, Act.eval, k7, k8, k9, kA, Option.getD_some] at hm)) | (refine wl_box (by rfl) rfl (by first | exact idV_cells _ | exact labV_cells _ _ | exact rectV_cells _ _ _ _ | rfl) hm ?_; clear hm; intro b1 w1 hm) | (refine wl_build (by rfl) (built_zeroL) rfl ?_; (try simp only [Act.put, k1, k2, k3]); (try simp only [← labV_eq])) | (refine wl_build (by rfl) (built_lab _ _) rfl ?_; (try simp only [Act.put, k1, k2, k3]); (try simp only [← labV_eq]))); (try simp only [k4, k5, k6, Act.put, k1, k2, k3]))
  go_wp2_with (with_reducible first | refine stAl ?_ | refine stBo ?_ | refine stLo ?_ | refine stSo ?_ | refine stBu ?_ | refine stBs ?_ | refine stMs ?_ | refine stAp ?_ | refine stCo ?_); refine wp_quiet_mem (by kernel_rfl) (by kernel_rfl) hm ?_
  repeat ((first | refine wq_skip (by rfl) ?_ | (refine wqL (hu := by first | exact undLabel) (hi := by (try simp only [rowOf_size]); first | exact sizeLabel) (h := ?_); (try simp only [Act.put, k1, k2, k3]); (try simp only [← labV_eq])) | refine wqLC (hu := by first | exact undInt | exact undU64) (h := ?_) | ((with_reducible show wpQuiet _ _ _ _ (⟨_, .call _, _, _, _, _⟩ :: _) _); refine wq_ask (by rfl) ?_; apply Exists.intro; refine ⟨?_, ?_⟩; (focus (intro w hC; go_simp; first | (go_at_call 32; exact (hI _).mono fun e w' h => ⟨h.1, hC.call h.2⟩) | (go_at_call 59; exact (hB _).mono fun e w' h => ⟨h.1, hC.call h.2⟩) | (go_at_call 65; exact (refBits_c _ hk _).mono fun e w' h => ⟨h.1, hC.call h.2⟩)))) | (refine wq_build (by rfl) (built_zeroL) rfl ?_; (try simp only [Act.put, k1, k2, k3]); (try simp only [← labV_eq])) | (refine wq_build (by rfl) (built_lab _ _) rfl ?_; (try simp only [Act.put, k1, k2, k3]); (try simp only [← labV_eq])) | refine wqS (h := ?_)); (try simp only [k4, k5, k6, Act.put, k1, k2, k3]))
  refine wpQuiet_nil ?_; clear hm; intro w5 hm
  go_wp2_with ((first | refine wpList_skip (by rfl) ?_ | (refine wlL (hm := hm) (hu := by first | exact undLabel) (hi := by (try simp only [rowOf_size]); first | exact sizeLabel) (h := ?_); (try simp only [Act.put, k1, k2, k3]); (try simp only [← labV_eq])) | refine wlLC (hm := hm) (hu := by first | exact undInt | exact undU64) (h := ?_) | (refine wlS (hm := hm) (hv := (by first | rfl | exact idV_eq _ | exact labV_eq _ _ | exact rectV_eq _ _ _ _)) (hi := by (try simp only [rowOf_size]); first | exact sizeLabel) (hs := by first | (simp only [rowOf_size]; done) | rfl) (h := ?_); clear hm; intro w1 hm; (try simp only [rowOf_set, k1, k2, k3, Value.cells, Act.eval, k7, k8, k9, kA, Option.getD_some] at hm)) | (refine wlSC (hm := hm) (hi := by first | exact sizeInt | exact sizeU64) (ho := by first | decide | (simp only [rowOf_size]; omega) | (simp; done)) (h := ?_); clear hm; intro w1 hm; (try simp only [rowOf_set, k1, k2, k3, Value.cells, Act.eval, k7, k8, k9, kA, Option.getD_some] at hm)) | (refine wlA (hz := by first | exact zeroLabel) (hm := hm) (h := ?_); clear hm; intro b1 w1 hm; (try simp only [rowOf_set, k1, k2, k3, Value.cells, Act.eval, k7, k8, k9, kA, Option.getD_some] at hm)) | (refine wl_box (by rfl) rfl (by first | exact idV_cells _ | exact labV_cells _ _ | exact rectV_cells _ _ _ _ | rfl) hm ?_; clear hm; intro b1 w1 hm) | (refine wl_build (by rfl) (built_zeroL) rfl ?_; (try simp only [Act.put, k1, k2, k3]); (try simp only [← labV_eq])) | (refine wl_build (by rfl) (built_lab _ _) rfl ?_; (try simp only [Act.put, k1, k2, k3]); (try simp only [← labV_eq]))); (try simp only [k4, k5, k6, Act.put, k1, k2, k3]))
  go_ret
  exact ⟨rfl, hm.ext⟩
theorem refCovers_true (n b key : Nat) (hl : isL (n : Int) b = true) (hb : b < 2 ^ 64) (hk : key < 2 ^ 64) (hn : n ≤ 64) : Says 38 #[labV (n : Int) b, .int .u64 (key : Int)] (.bool (((hd key n : Nat) : Int) == (b : Int))) := by
  intro w
  have hI := refIs_of n b true hb hl
  have hB : Says 59 _ _ := refBitsL_c n b hb hn
  have hS := slice_to (n := n) (by rw [txt_size]; exact hn) (txt_take 64 n key hn)
  have hm' := isL_mod n b hl
  have hp : 0 < 2 ^ (64 - n) := Nat.pow_pos (by omega)
  have e : (((txt n (b / 2 ^ (64 - n))).toList == (txt n (key / 2 ^ (64 - n))).toList)) = (((hd key n : Nat) : Int) == (b : Int)) := by
    rw [txt_beq n _ _ (top_lt n b hn hb) (top_lt n key hn hk), Bool.eq_iff_iff, decide_eq_true_iff, beq_iff_eq, Int.natCast_inj, hd_eq]
    constructor
    · intro h; rw [← h]; exact top_mul n b hm'
    · intro h; exact (Nat.eq_of_mul_eq_mul_right hp (h.trans (top_mul n b hm').symm)).symm
  rw [← e]
  clear e
  generalize txt n (b / 2 ^ (64 - n)) = t1 at *
  generalize txt n (key / 2 ^ (64 - n)) = t2 at *
  go_enter Try.func38, Try.ntmps38
  have hm := Mem.refl w []
  go_wp2_with ((first | refine wpList_skip (by rfl) ?_ | (refine wlL (hm := hm) (hu := by first | exact undLabel) (hi := by (try simp only [rowOf_size]); first | exact sizeLabel) (h := ?_); (try simp only [Act.put, k1, k2, k3]); (try simp only [← labV_eq])) | refine wlLC (hm := hm) (hu := by first | exact undInt | exact undU64) (h := ?_) | (refine wlS (hm := hm) (hv := (by first | rfl | exact idV_eq _ | exact labV_eq _ _ | exact rectV_eq _ _ _ _)) (hi := by (try simp only [rowOf_size]); first | exact sizeLabel) (hs := by first | (simp only [rowOf_size]; done) | rfl) (h := ?_); clear hm; intro w1 hm; (try simp only [rowOf_set, k1, k2, k3, Value.cells, Act.eval, k7, k8, k9, kA, Option.getD_some] at hm)) | (refine wlSC (hm := hm) (hi := by first | exact sizeInt | exact sizeU64) (ho := by first | decide | (simp only [rowOf_size]; omega) | (simp; done)) (h := ?_); clear hm; intro w1 hm; (try simp only [rowOf_set, k1, k2, k3, Value.cells, Act.eval, k7, k8, k9, kA, Option.getD_some] at hm)) | (refine wlA (hz := by first | exact zeroLabel) (hm := hm) (h := ?_); clear hm; intro b1 w1 hm; (try simp only [rowOf_set, k1, k2, k3, Value.cells, Act.eval, k7, k8, k9, kA, Option.getD_some] at hm)) | (refine wl_box (by rfl) rfl (by first | exact idV_cells _ | exact labV_cells _ _ | exact rectV_cells _ _ _ _ | rfl) hm ?_; clear hm; intro b1 w1 hm) | (refine wl_build (by rfl) (built_zeroL) rfl ?_; (try simp only [Act.put, k1, k2, k3]); (try simp only [← labV_eq])) | (refine wl_build (by rfl) (built_lab _ _) rfl ?_; (try simp only [Act.put, k1, k2, k3]); (try simp only [← labV_eq]))); (try simp only [k4, k5, k6, Act.put, k1, k2, k3]))
  go_wp2_with (with_reducible first | refine stAl ?_ | refine stBo ?_ | refine stLo ?_ | refine stSo ?_ | refine stBu ?_ | refine stBs ?_ | refine stMs ?_ | refine stAp ?_ | refine stCo ?_); refine wp_quiet_mem (by kernel_rfl) (by kernel_rfl) hm ?_
  repeat ((first | refine wq_skip (by rfl) ?_ | (refine wqL (hu := by first | exact undLabel) (hi := by (try simp only [rowOf_size]); first | exact sizeLabel) (h := ?_); (try simp only [Act.put, k1, k2, k3]); (try simp only [← labV_eq])) | refine wqLC (hu := by first | exact undInt | exact undU64) (h := ?_) | ((with_reducible show wpQuiet _ _ _ _ (⟨_, .call _, _, _, _, _⟩ :: _) _); refine wq_ask (by rfl) ?_; apply Exists.intro; refine ⟨?_, ?_⟩; (focus (intro w hC; go_simp; first | (go_at_call 32; exact (hI _).mono fun e w' h => ⟨h.1, hC.call h.2⟩) | (go_at_call 59; exact (hB _).mono fun e w' h => ⟨h.1, hC.call h.2⟩) | (go_at_call 65; exact (refBits_c _ hk _).mono fun e w' h => ⟨h.1, hC.call h.2⟩)))) | (refine wq_build (by rfl) (built_zeroL) rfl ?_; (try simp only [Act.put, k1, k2, k3]); (try simp only [← labV_eq])) | (refine wq_build (by rfl) (built_lab _ _) rfl ?_; (try simp only [Act.put, k1, k2, k3]); (try simp only [← labV_eq])) | refine wqS (h := ?_)); (try simp only [k4, k5, k6, Act.put, k1, k2, k3]))
  refine wpQuiet_nil ?_; clear hm; intro w5 hm
  go_wp2_with ((first | refine wpList_skip (by rfl) ?_ | (refine wlL (hm := hm) (hu := by first | exact undLabel) (hi := by (try simp only [rowOf_size]); first | exact sizeLabel) (h := ?_); (try simp only [Act.put, k1, k2, k3]); (try simp only [← labV_eq])) | refine wlLC (hm := hm) (hu := by first | exact undInt | exact undU64) (h := ?_) | (refine wlS (hm := hm) (hv := (by first | rfl | exact idV_eq _ | exact labV_eq _ _ | exact rectV_eq _ _ _ _)) (hi := by (try simp only [rowOf_size]); first | exact sizeLabel) (hs := by first | (simp only [rowOf_size]; done) | rfl) (h := ?_); clear hm; intro w1 hm; (try simp only [rowOf_set, k1, k2, k3, Value.cells, Act.eval, k7, k8, k9, kA, Option.getD_some] at hm)) | (refine wlSC (hm := hm) (hi := by first | exact sizeInt | exact sizeU64) (ho := by first | decide | (simp only [rowOf_size]; omega) | (simp; done)) (h := ?_); clear hm; intro w1 hm; (try simp only [rowOf_set, k1, k2, k3, Value.cells, Act.eval, k7, k8, k9, kA, Option.getD_some] at hm)) | (refine wlA (hz := by first | exact zeroLabel) (hm := hm) (h := ?_); clear hm; intro b1 w1 hm; (try simp only [rowOf_set, k1, k2, k3, Value.cells, Act.eval, k7, k8, k9, kA, Option.getD_some] at hm)) | (refine wl_box (by rfl) rfl (by first | exact idV_cells _ | exact labV_cells _ _ | exact rectV_cells _ _ _ _ | rfl) hm ?_; clear hm; intro b1 w1 hm) | (refine wl_build (by rfl) (built_zeroL) rfl ?_; (try simp only [Act.put, k1, k2, k3]); (try simp only [← labV_eq])) | (refine wl_build (by rfl) (built_lab _ _) rfl ?_; (try simp only [Act.put, k1, k2, k3]); (try simp only [← labV_eq]))); (try simp only [k4, k5, k6, Act.put, k1, k2, k3]))
  go_ret
  exact ⟨rfl, hm.ext⟩
theorem refWithin_c (len : Int) (b : Nat) (len' : Int) (b' : Nat) (hb : b < 2 ^ 64) (hb' : b' < 2 ^ 64) : Says 39 #[labV len b, labV len' b'] (.bool (withinM len b len' b')) := by
  intro w
  unfold withinM
  cases hl : isL len b with
  | false =>
    have hI := refIs_of len b false hb hl
    have hI2 := hI
    have hB : True := trivial
    have hB2 : True := trivial
    rw [Bool.false_and]
    go_enter Try.func39, Try.ntmps39
    have hm := Mem.refl w []
    go_wp2_with ((first | refine wpList_skip (by rfl) ?_ | (refine wlL (hm := hm) (hu := by first | exact undLabel) (hi := by (try simp only [rowOf_size]); first | exact sizeLabel) (h := ?_); (try simp only [Act.put, k1, k2, k3]); (try simp only [← labV_eq])) | refine wlLC (hm := hm) (hu := by first | exact undInt | exact undU64) (h := ?_) | (refine wlS (hm := hm) (hv := (by first | rfl | exact idV_eq _ | exact labV_eq _ _ | exact rectV_eq _ _ _ _)) (hi := by (try simp only [rowOf_size]); first | exact sizeLabel) (hs := by first | (simp only [rowOf_size]; done) | rfl) (h := ?_); clear hm; intro w1 hm; (try simp only [rowOf_set, k1, k2, k3, Value.cells, Act.eval, k7, k8, k9, kA, Option.getD_some] at hm)) | (refine wlSC (hm := hm) (hi := by first | exact sizeInt | exact sizeU64) (ho := by first | decide | (simp only [rowOf_size]; omega) | (simp; done)) (h := ?_); clear hm; intro w1 hm; (try simp only [rowOf_set, k1, k2, k3, Value.cells, Act.eval, k7, k8, k9, kA, Option.getD_some] at hm)) | (refine wlA (hz := by first | exact zeroLabel) (hm := hm) (h := ?_); clear hm; intro b1 w1 hm; (try simp only [rowOf_set, k1, k2, k3, Value.cells, Act.eval, k7, k8, k9, kA, Option.getD_some] at hm)) | (refine wl_box (by rfl) rfl (by first | exact idV_cells _ | exact labV_cells _ _ | exact rectV_cells _ _ _ _ | rfl) hm ?_; clear hm; intro b1 w1 hm) | (refine wl_build (by rfl) (built_zeroL) rfl ?_; (try simp only [Act.put, k1, k2, k3]); (try simp only [← labV_eq])) | (refine wl_build (by rfl) (built_lab _ _) rfl ?_; (try simp only [Act.put, k1, k2, k3]); (try simp only [← labV_eq]))); (try simp only [k4, k5, k6, Act.put, k1, k2, k3]))
    go_wp2_with (with_reducible first | refine stAl ?_ | refine stBo ?_ | refine stLo ?_ | refine stSo ?_ | refine stBu ?_ | refine stBs ?_ | refine stMs ?_ | refine stAp ?_ | refine stCo ?_); refine wp_quiet_mem (by kernel_rfl) (by kernel_rfl) hm ?_
    repeat ((first | refine wq_skip (by rfl) ?_ | (refine wqL (hu := by first | exact undLabel) (hi := by (try simp only [rowOf_size]); first | exact sizeLabel) (h := ?_); (try simp only [Act.put, k1, k2, k3]); (try simp only [← labV_eq])) | refine wqLC (hu := by first | exact undInt | exact undU64) (h := ?_) | ((with_reducible show wpQuiet _ _ _ _ (⟨_, .call _, _, _, _, _⟩ :: _) _); refine wq_ask (by rfl) ?_; apply Exists.intro; refine ⟨?_, ?_⟩; (focus (intro w hC; go_simp; first | (go_at_call 32; exact (hI _).mono fun e w' h => ⟨h.1, hC.call h.2⟩) | (go_at_call 32; exact (hI2 _).mono fun e w' h => ⟨h.1, hC.call h.2⟩) | (go_at_call 59; exact (hB _).mono fun e w' h => ⟨h.1, hC.call h.2⟩) | (go_at_call 59; exact (hB2 _).mono fun e w' h => ⟨h.1, hC.call h.2⟩)))) | (refine wq_build (by rfl) (built_zeroL) rfl ?_; (try simp only [Act.put, k1, k2, k3]); (try simp only [← labV_eq])) | (refine wq_build (by rfl) (built_lab _ _) rfl ?_; (try simp only [Act.put, k1, k2, k3]); (try simp only [← labV_eq])) | refine wqS (h := ?_)); (try simp only [k4, k5, k6, Act.put, k1, k2, k3]))
    refine wpQuiet_nil ?_; clear hm; intro w5 hm
    go_wp2_with ((first | refine wpList_skip (by rfl) ?_ | (refine wlL (hm := hm) (hu := by first | exact undLabel) (hi := by (try simp only [rowOf_size]); first | exact sizeLabel) (h := ?_); (try simp only [Act.put, k1, k2, k3]); (try simp only [← labV_eq])) | refine wlLC (hm := hm) (hu := by first | exact undInt | exact undU64) (h := ?_) | (refine wlS (hm := hm) (hv := (by first | rfl | exact idV_eq _ | exact labV_eq _ _ | exact rectV_eq _ _ _ _)) (hi := by (try simp only [rowOf_size]); first | exact sizeLabel) (hs := by first | (simp only [rowOf_size]; done) | rfl) (h := ?_); clear hm; intro w1 hm; (try simp only [rowOf_set, k1, k2, k3, Value.cells, Act.eval, k7, k8, k9, kA, Option.getD_some] at hm)) | (refine wlSC (hm := hm) (hi := by first | exact sizeInt | exact sizeU64) (ho := by first | decide | (simp only [rowOf_size]; omega) | (simp; done)) (h := ?_); clear hm; intro w1 hm; (try simp only [rowOf_set, k1, k2, k3, Value.cells, Act.eval, k7, k8, k9, kA, Option.getD_some] at hm)) | (refine wlA (hz := by first | exact zeroLabel) (hm := hm) (h := ?_); clear hm; intro b1 w1 hm; (try simp only [rowOf_set, k1, k2, k3, Value.cells, Act.eval, k7, k8, k9, kA, Option.getD_some] at hm)) | (refine wl_box (by rfl) rfl (by first | exact idV_cells _ | exact labV_cells _ _ | exact rectV_cells _ _ _ _ | rfl) hm ?_; clear hm; intro b1 w1 hm) | (refine wl_build (by rfl) (built_zeroL) rfl ?_; (try simp only [Act.put, k1, k2, k3]); (try simp only [← labV_eq])) | (refine wl_build (by rfl) (built_lab _ _) rfl ?_; (try simp only [Act.put, k1, k2, k3]); (try simp only [← labV_eq]))); (try simp only [k4, k5, k6, Act.put, k1, k2, k3]))
    go_ret
    exact ⟨rfl, hm.ext⟩
  | true =>
    have hI := refIs_of len b true hb hl
    rw [Bool.true_and]
    cases hl' : isL len' b' with
    | false =>
      have hI2 := refIs_of len' b' false hb' hl'
      have hB : True := trivial
      have hB2 : True := trivial
      rw [Bool.false_and, Bool.and_false]
      go_enter Try.func39, Try.ntmps39
      have hm := Mem.refl w []
      go_wp2_with ((first | refine wpList_skip (by rfl) ?_ | (refine wlL (hm := hm) (hu := by first | exact undLabel) (hi := by (try simp only [rowOf_size]); first | exact sizeLabel) (h := ?_); (try simp only [Act.put, k1, k2, k3]); (try simp only [← labV_eq])) | refine wlLC (hm := hm) (hu := by first | exact undInt | exact undU64) (h := ?_) | (refine wlS (hm := hm) (hv := (by first | rfl | exact idV_eq _ | exact labV_eq _ _ | exact rectV_eq _ _ _ _)) (hi := by (try simp only [rowOf_size]); first | exact sizeLabel) (hs := by first | (simp only [rowOf_size]; done) | rfl) (h := ?_); clear hm; intro w1 hm; (try simp only [rowOf_set, k1, k2, k3, Value.cells, Act.eval, k7, k8, k9, kA, Option.getD_some] at hm)) | (refine wlSC (hm := hm) (hi := by first | exact sizeInt | exact sizeU64) (ho := by first | decide | (simp only [rowOf_size]; omega) | (simp; done)) (h := ?_); clear hm; intro w1 hm; (try simp only [rowOf_set, k1, k2, k3, Value.cells, Act.eval, k7, k8, k9, kA, Option.getD_some] at hm)) | (refine wlA (hz := by first | exact zeroLabel) (hm := hm) (h := ?_); clear hm; intro b1 w1 hm; (try simp only [rowOf_set, k1, k2, k3, Value.cells, Act.eval, k7, k8, k9, kA, Option.getD_some] at hm)) | (refine wl_box (by rfl) rfl (by first | exact idV_cells _ | exact labV_cells _ _ | exact rectV_cells _ _ _ _ | rfl) hm ?_; clear hm; intro b1 w1 hm) | (refine wl_build (by rfl) (built_zeroL) rfl ?_; (try simp only [Act.put, k1, k2, k3]); (try simp only [← labV_eq])) | (refine wl_build (by rfl) (built_lab _ _) rfl ?_; (try simp only [Act.put, k1, k2, k3]); (try simp only [← labV_eq]))); (try simp only [k4, k5, k6, Act.put, k1, k2, k3]))
      go_wp2_with (with_reducible first | refine stAl ?_ | refine stBo ?_ | refine stLo ?_ | refine stSo ?_ | refine stBu ?_ | refine stBs ?_ | refine stMs ?_ | refine stAp ?_ | refine stCo ?_); refine wp_quiet_mem (by kernel_rfl) (by kernel_rfl) hm ?_
      repeat ((first | refine wq_skip (by rfl) ?_ | (refine wqL (hu := by first | exact undLabel) (hi := by (try simp only [rowOf_size]); first | exact sizeLabel) (h := ?_); (try simp only [Act.put, k1, k2, k3]); (try simp only [← labV_eq])) | refine wqLC (hu := by first | exact undInt | exact undU64) (h := ?_) | ((with_reducible show wpQuiet _ _ _ _ (⟨_, .call _, _, _, _, _⟩ :: _) _); refine wq_ask (by rfl) ?_; apply Exists.intro; refine ⟨?_, ?_⟩; (focus (intro w hC; go_simp; first | (go_at_call 32; exact (hI _).mono fun e w' h => ⟨h.1, hC.call h.2⟩) | (go_at_call 32; exact (hI2 _).mono fun e w' h => ⟨h.1, hC.call h.2⟩) | (go_at_call 59; exact (hB _).mono fun e w' h => ⟨h.1, hC.call h.2⟩) | (go_at_call 59; exact (hB2 _).mono fun e w' h => ⟨h.1, hC.call h.2⟩)))) | (refine wq_build (by rfl) (built_zeroL) rfl ?_; (try simp only [Act.put, k1, k2, k3]); (try simp only [← labV_eq])) | (refine wq_build (by rfl) (built_lab _ _) rfl ?_; (try simp only [Act.put, k1, k2, k3]); (try simp only [← labV_eq])) | refine wqS (h := ?_)); (try simp only [k4, k5, k6, Act.put, k1, k2, k3]))
      refine wpQuiet_nil ?_; clear hm; intro w5 hm
      go_wp2_with ((first | refine wpList_skip (by rfl) ?_ | (refine wlL (hm := hm) (hu := by first | exact undLabel) (hi := by (try simp only [rowOf_size]); first | exact sizeLabel) (h := ?_); (try simp only [Act.put, k1, k2, k3]); (try simp only [← labV_eq])) | refine wlLC (hm := hm) (hu := by first | exact undInt | exact undU64) (h := ?_) | (refine wlS (hm := hm) (hv := (by first | rfl | exact idV_eq _ | exact labV_eq _ _ | exact rectV_eq _ _ _ _)) (hi := by (try simp only [rowOf_size]); first | exact sizeLabel) (hs := by first | (simp only [rowOf_size]; done) | rfl) (h := ?_); clear hm; intro w1 hm; (try simp only [rowOf_set, k1, k2, k3, Value.cells, Act.eval, k7, k8, k9, kA, Option.getD_some] at hm)) | (refine wlSC (hm := hm) (hi := by first | exact sizeInt | exact sizeU64) (ho := by first | decide | (simp only [rowOf_size]; omega) | (simp; done)) (h := ?_); clear hm; intro w1 hm; (try simp only [rowOf_set, k1, k2, k3, Value.cells, Act.eval, k7, k8, k9, kA, Option.getD_some] at hm)) | (refine wlA (hz := by first | exact zeroLabel) (hm := hm) (h := ?_); clear hm; intro b1 w1 hm; (try simp only [rowOf_set, k1, k2, k3, Value.cells, Act.eval, k7, k8, k9, kA, Option.getD_some] at hm)) | (refine wl_box (by rfl) rfl (by first | exact idV_cells _ | exact labV_cells _ _ | exact rectV_cells _ _ _ _ | rfl) hm ?_; clear hm; intro b1 w1 hm) | (refine wl_build (by rfl) (built_zeroL) rfl ?_; (try simp only [Act.put, k1, k2, k3]); (try simp only [← labV_eq])) | (refine wl_build (by rfl) (built_lab _ _) rfl ?_; (try simp only [Act.put, k1, k2, k3]); (try simp only [← labV_eq]))); (try simp only [k4, k5, k6, Act.put, k1, k2, k3]))
      go_ret
      exact ⟨rfl, hm.ext⟩
    | true =>
      have hI2 := refIs_of len' b' true hb' hl'
      rw [Bool.true_and]
      by_cases hle : len' ≤ len
      · obtain ⟨n, rfl, hn, _⟩ := isL_nat len b hl
        obtain ⟨k, rfl, hk, _⟩ := isL_nat len' b' hl'
        have hkn : k ≤ n := by omega
        have hB : Says 59 _ _ := refBitsL_c n b hb hn
        have hB2 : Says 59 _ _ := refBitsL_c k b' hb' hk
        have hT := txt_take n k (b / 2 ^ (64 - n)) hkn
        rw [Nat.div_div_eq_div_mul, ← Nat.pow_add, show 64 - n + (n - k) = 64 - k from by omega] at hT
        have hS := slice_to (n := k) (by rw [txt_size]; exact hkn) hT
        have hm' := isL_mod k b' hl'
        have hp : 0 < 2 ^ (64 - k) := Nat.pow_pos (by omega)
        have e : (((txt k (b / 2 ^ (64 - k))).toList == (txt k (b' / 2 ^ (64 - k))).toList)) = decide (hd b k = b') := by
          rw [txt_beq k _ _ (top_lt k b hk hb) (top_lt k b' hk hb'), Bool.eq_iff_iff, decide_eq_true_iff, decide_eq_true_iff, hd_eq]
          constructor
          · intro h; rw [h]; exact top_mul k b' hm'
          · intro h; exact Nat.eq_of_mul_eq_mul_right hp (h.trans (top_mul k b' hm').symm)
        rw [Int.toNat_natCast, ← e, decide_eq_true hle, Bool.true_and]
        have d0 : decide (k ≤ n) = true := decide_eq_true hkn
        clear e hle hm' hp hT
        generalize txt n (b / 2 ^ (64 - n)) = t0 at *
        generalize txt k (b / 2 ^ (64 - k)) = t1 at *
        generalize txt k (b' / 2 ^ (64 - k)) = t2 at *
        go_enter Try.func39, Try.ntmps39
        have hm := Mem.refl w []
        go_wp2_with ((first | refine wpList_skip (by rfl) ?_ | (refine wlL (hm := hm) (hu := by first | exact undLabel) (hi := by (try simp only [rowOf_size]); first | exact sizeLabel) (h := ?_); (try simp only [Act.put, k1, k2, k3]); (try simp only [← labV_eq])) | refine wlLC (hm := hm) (hu := by first | exact undInt | exact undU64) (h := ?_) | (refine wlS (hm := hm) (hv := (by first | rfl | exact idV_eq _ | exact labV_eq _ _ | exact rectV_eq _ _ _ _)) (hi := by (try simp only [rowOf_size]); first | exact sizeLabel) (hs := by first | (simp only [rowOf_size]; done) | rfl) (h := ?_); clear hm; intro w1 hm; (try simp only [rowOf_set, k1, k2, k3, Value.cells, Act.eval, k7, k8, k9, kA, Option.getD_some] at hm)) | (refine wlSC (hm := hm) (hi := by first | exact sizeInt | exact sizeU64) (ho := by first | decide | (simp only [rowOf_size]; omega) | (simp; done)) (h := ?_); clear hm; intro w1 hm; (try simp only [rowOf_set, k1, k2, k3, Value.cells, Act.eval, k7, k8, k9, kA, Option.getD_some] at hm)) | (refine wlA (hz := by first | exact zeroLabel) (hm := hm) (h := ?_); clear hm; intro b1 w1 hm; (try simp only [rowOf_set, k1, k2, k3, Value.cells, Act.eval, k7, k8, k9, kA, Option.getD_some] at hm)) | (refine wl_box (by rfl) rfl (by first | exact idV_cells _ | exact labV_cells _ _ | exact rectV_cells _ _ _ _ | rfl) hm ?_; clear hm; intro b1 w1 hm) | (refine wl_build (by rfl) (built_zeroL) rfl ?_; (try simp only [Act.put, k1, k2, k3]); (try simp only [← labV_eq])) | (refine wl_build (by rfl) (built_lab _ _) rfl ?_; (try simp only [Act.put, k1, k2, k3]); (try simp only [← labV_eq]))); (try simp only [k4, k5, k6, Act.put, k1, k2, k3]))
        go_wp2_with (with_reducible first | refine stAl ?_ | refine stBo ?_ | refine stLo ?_ | refine stSo ?_ | refine stBu ?_ | refine stBs ?_ | refine stMs ?_ | refine stAp ?_ | refine stCo ?_); refine wp_quiet_mem (by kernel_rfl) (by kernel_rfl) hm ?_
        repeat ((first | refine wq_skip (by rfl) ?_ | (refine wqL (hu := by first | exact undLabel) (hi := by (try simp only [rowOf_size]); first | exact sizeLabel) (h := ?_); (try simp only [Act.put, k1, k2, k3]); (try simp only [← labV_eq])) | refine wqLC (hu := by first | exact undInt | exact undU64) (h := ?_) | ((with_reducible show wpQuiet _ _ _ _ (⟨_, .call _, _, _, _, _⟩ :: _) _); refine wq_ask (by rfl) ?_; apply Exists.intro; refine ⟨?_, ?_⟩; (focus (intro w hC; go_simp; first | (go_at_call 32; exact (hI _).mono fun e w' h => ⟨h.1, hC.call h.2⟩) | (go_at_call 32; exact (hI2 _).mono fun e w' h => ⟨h.1, hC.call h.2⟩) | (go_at_call 59; exact (hB _).mono fun e w' h => ⟨h.1, hC.call h.2⟩) | (go_at_call 59; exact (hB2 _).mono fun e w' h => ⟨h.1, hC.call h.2⟩)))) | (refine wq_build (by rfl) (built_zeroL) rfl ?_; (try simp only [Act.put, k1, k2, k3]); (try simp only [← labV_eq])) | (refine wq_build (by rfl) (built_lab _ _) rfl ?_; (try simp only [Act.put, k1, k2, k3]); (try simp only [← labV_eq])) | refine wqS (h := ?_)); (try simp only [k4, k5, k6, Act.put, k1, k2, k3]))
        refine wpQuiet_nil ?_; clear hm; intro w5 hm
        go_wp2_with ((first | refine wpList_skip (by rfl) ?_ | (refine wlL (hm := hm) (hu := by first | exact undLabel) (hi := by (try simp only [rowOf_size]); first | exact sizeLabel) (h := ?_); (try simp only [Act.put, k1, k2, k3]); (try simp only [← labV_eq])) | refine wlLC (hm := hm) (hu := by first | exact undInt | exact undU64) (h := ?_) | (refine wlS (hm := hm) (hv := (by first | rfl | exact idV_eq _ | exact labV_eq _ _ | exact rectV_eq _ _ _ _)) (hi := by (try simp only [rowOf_size]); first | exact sizeLabel) (hs := by first | (simp only [rowOf_size]; done) | rfl) (h := ?_); clear hm; intro w1 hm; (try simp only [rowOf_set, k1, k2, k3, Value.cells, Act.eval, k7, k8, k9, kA, Option.getD_some] at hm)) | (refine wlSC (hm := hm) (hi := by first | exact sizeInt | exact sizeU64) (ho := by first | decide | (simp only [rowOf_size]; omega) | (simp; done)) (h := ?_); clear hm; intro w1 hm; (try simp only [rowOf_set, k1, k2, k3, Value.cells, Act.eval, k7, k8, k9, kA, Option.getD_some] at hm)) | (refine wlA (hz := by first | exact zeroLabel) (hm := hm) (h := ?_); clear hm; intro b1 w1 hm; (try simp only [rowOf_set, k1, k2, k3, Value.cells, Act.eval, k7, k8, k9, kA, Option.getD_some] at hm)) | (refine wl_box (by rfl) rfl (by first | exact idV_cells _ | exact labV_cells _ _ | exact rectV_cells _ _ _ _ | rfl) hm ?_; clear hm; intro b1 w1 hm) | (refine wl_build (by rfl) (built_zeroL) rfl ?_; (try simp only [Act.put, k1, k2, k3]); (try simp only [← labV_eq])) | (refine wl_build (by rfl) (built_lab _ _) rfl ?_; (try simp only [Act.put, k1, k2, k3]); (try simp only [← labV_eq]))); (try simp only [k4, k5, k6, Act.put, k1, k2, k3]))
        go_ret
        exact ⟨rfl, hm.ext⟩
      · have d0 : decide (len' ≤ len) = false := decide_eq_false hle
        have hB : True := trivial
        have hB2 : True := trivial
        rw [d0, Bool.false_and]
        go_enter Try.func39, Try.ntmps39
        have hm := Mem.refl w []
        go_wp2_with ((first | refine wpList_skip (by rfl) ?_ | (refine wlL (hm := hm) (hu := by first | exact undLabel) (hi := by (try simp only [rowOf_size]); first | exact sizeLabel) (h := ?_); (try simp only [Act.put, k1, k2, k3]); (try simp only [← labV_eq])) | refine wlLC (hm := hm) (hu := by first | exact undInt | exact undU64) (h := ?_) | (refine wlS (hm := hm) (hv := (by first | rfl | exact idV_eq _ | exact labV_eq _ _ | exact rectV_eq _ _ _ _)) (hi := by (try simp only [rowOf_size]); first | exact sizeLabel) (hs := by first | (simp only [rowOf_size]; done) | rfl) (h := ?_); clear hm; intro w1 hm; (try simp only [rowOf_set, k1, k2, k3, Value.cells, Act.eval, k7, k8, k9, kA, Option.getD_some] at hm)) | (refine wlSC (hm := hm) (hi := by first | exact sizeInt | exact sizeU64) (ho := by first | decide | (simp only [rowOf_size]; omega) | (simp; done)) (h := ?_); clear hm; intro w1 hm; (try simp only [rowOf_set, k1, k2, k3, Value.cells, Act.eval, k7, k8, k9, kA, Option.getD_some] at hm)) | (refine wlA (hz := by first | exact zeroLabel) (hm := hm) (h := ?_); clear hm; intro b1 w1 hm; (try simp only [rowOf_set, k1, k2, k3, Value.cells, Act.eval, k7, k8, k9, kA, Option.getD_some] at hm)) | (refine wl_box (by rfl) rfl (by first | exact idV_cells _ | exact labV_cells _ _ | exact rectV_cells _ _ _ _ | rfl) hm ?_; clear hm; intro b1 w1 hm) | (refine wl_build (by rfl) (built_zeroL) rfl ?_; (try simp only [Act.put, k1, k2, k3]); (try simp only [← labV_eq])) | (refine wl_build (by rfl) (built_lab _ _) rfl ?_; (try simp only [Act.put, k1, k2, k3]); (try simp only [← labV_eq]))); (try simp only [k4, k5, k6, Act.put, k1, k2, k3]))
        go_wp2_with (with_reducible first | refine stAl ?_ | refine stBo ?_ | refine stLo ?_ | refine stSo ?_ | refine stBu ?_ | refine stBs ?_ | refine stMs ?_ | refine stAp ?_ | refine stCo ?_); refine wp_quiet_mem (by kernel_rfl) (by kernel_rfl) hm ?_
        repeat ((first | refine wq_skip (by rfl) ?_ | (refine wqL (hu := by first | exact undLabel) (hi := by (try simp only [rowOf_size]); first | exact sizeLabel) (h := ?_); (try simp only [Act.put, k1, k2, k3]); (try simp only [← labV_eq])) | refine wqLC (hu := by first | exact undInt | exact undU64) (h := ?_) | ((with_reducible show wpQuiet _ _ _ _ (⟨_, .call _, _, _, _, _⟩ :: _) _); refine wq_ask (by rfl) ?_; apply Exists.intro; refine ⟨?_, ?_⟩; (focus (intro w hC; go_simp; first | (go_at_call 32; exact (hI _).mono fun e w' h => ⟨h.1, hC.call h.2⟩) | (go_at_call 32; exact (hI2 _).mono fun e w' h => ⟨h.1, hC.call h.2⟩) | (go_at_call 59; exact (hB _).mono fun e w' h => ⟨h.1, hC.call h.2⟩) | (go_at_call 59; exact (hB2 _).mono fun e w' h => ⟨h.1, hC.call h.2⟩)))) | (refine wq_build (by rfl) (built_zeroL) rfl ?_; (try simp only [Act.put, k1, k2, k3]); (try simp only [← labV_eq])) | (refine wq_build (by rfl) (built_lab _ _) rfl ?_; (try simp only [Act.put, k1, k2, k3]); (try simp only [← labV_eq])) | refine wqS (h := ?_)); (try simp only [k4, k5, k6, Act.put, k1, k2, k3]))
        refine wpQuiet_nil ?_; clear hm; intro w5 hm
        go_wp2_with ((first | refine wpList_skip (by rfl) ?_ | (refine wlL (hm := hm) (hu := by first | exact undLabel) (hi := by (try simp only [rowOf_size]); first | exact sizeLabel) (h := ?_); (try simp only [Act.put, k1, k2, k3]); (try simp only [← labV_eq])) | refine wlLC (hm := hm) (hu := by first | exact undInt | exact undU64) (h := ?_) | (refine wlS (hm := hm) (hv := (by first | rfl | exact idV_eq _ | exact labV_eq _ _ | exact rectV_eq _ _ _ _)) (hi := by (try simp only [rowOf_size]); first | exact sizeLabel) (hs := by first | (simp only [rowOf_size]; done) | rfl) (h := ?_); clear hm; intro w1 hm; (try simp only [rowOf_set, k1, k2, k3, Value.cells, Act.eval, k7, k8, k9, kA, Option.getD_some] at hm)) | (refine wlSC (hm := hm) (hi := by first | exact sizeInt | exact sizeU64) (ho := by first | decide | (simp only [rowOf_size]; omega) | (simp; done)) (h := ?_); clear hm; intro w1 hm; (try simp only [rowOf_set, k1, k2, k3, Value.cells, Act.eval, k7, k8, k9, kA, Option.getD_some] at hm)) | (refine wlA (hz := by first | exact zeroLabel) (hm := hm) (h := ?_); clear hm; intro b1 w1 hm; (try simp only [rowOf_set, k1, k2, k3, Value.cells, Act.eval, k7, k8, k9, kA, Option.getD_some] at hm)) | (refine wl_box (by rfl) rfl (by first | exact idV_cells _ | exact labV_cells _ _ | exact rectV_cells _ _ _ _ | rfl) hm ?_; clear hm; intro b1 w1 hm) | (refine wl_build (by rfl) (built_zeroL) rfl ?_; (try simp only [Act.put, k1, k2, k3]); (try simp only [← labV_eq])) | (refine wl_build (by rfl) (built_lab _ _) rfl ?_; (try simp only [Act.put, k1, k2, k3]); (try simp only [← labV_eq]))); (try simp only [k4, k5, k6, Act.put, k1, k2, k3]))
        go_ret
        exact ⟨rfl, hm.ext⟩
end Go.Proofs.Ytdlfgoiakkkilaa
