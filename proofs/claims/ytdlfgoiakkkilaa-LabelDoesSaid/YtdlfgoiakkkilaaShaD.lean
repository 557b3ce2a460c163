/-
  Sums: what a padded text is; both Pads.
-/
import Derived.Test.YtdlfgoiakkkilaaTxt
import Derived.Test.YtdlfgoiakkkilaaShaA
import Derived.Test.YtdlfgoiakkkilaaMem8
import Derived.Test.YtdlfgoiakkkilaaShelf
namespace Go.Proofs.Ytdlfgoiakkkilaa
open Go.RowKit
set_option linter.unusedSimpArgs false
set_option linter.unusedVariables false
set_option maxHeartbeats 1000000
set_option maxRecDepth 20000
attribute [local irreducible] wpQuiet wpList wpAnyH Calls

theorem Ext.ofBelow {w w' : World} (h : Below w.heap.size w w') : Ext w w' :=
  ⟨h.os, h.tape, h.output, h.size, fun k hk _ => h.block k hk, fun _ hp => (List.not_mem_nil hp).elim, fun _ hp => (List.not_mem_nil hp).elim, fun i _ _ _ hi => by simp at hi⟩
theorem repeatL_zeros : ∀ k, Lib.repeatL [0] k = List.replicate k 0
  | 0 => rfl
  | k + 1 => by rw [Lib.repeatL, repeatL_zeros k]; rfl
theorem repeat_bytes (k : Nat) : (⟨(Lib.repeatL ({ data := #[0] } : ByteArray).data.toList k).toArray⟩ : ByteArray) = bytesB k fun _ => 0 := by
  unfold bytesB
  congr 2
  rw [show ({ data := #[0] } : ByteArray).data.toList = [0] from rfl, repeatL_zeros]
  apply List.ext_getElem <;> simp
theorem repeat_c (k : Nat) (hk : k < 64) (w : World) : Calls Try.prog 66 #[.string { data := #[0] }, .int .i64 (k : Int)] w fun e w' => e = .returned (.string (bytesB k fun _ => 0)) ∧ Ext w w' := by
  refine (Try.strings_Repeat { data := #[0] } k w (by omega) (by rw [show ({ data := #[0] } : ByteArray).size = 1 from rfl]; omega)).mono ?_
  rintro e w' ⟨rfl, hb⟩
  exact ⟨by rw [repeat_bytes], Ext.ofBelow hb⟩

def padLen (n : Nat) : Nat := (n + 8) / 64 * 64 + 64
def fillN (n : Nat) : Nat := (119 - n % 64) % 64
def lenB (i B : Nat) : ByteArray := bytesB i fun j => B / 256 ^ (i - 1 - j) % 256
/-- A text, padded. -/
@[irreducible] def padB (s : ByteArray) : ByteArray := s ++ bytesB 1 (fun _ => 128) ++ bytesB (fillN s.size) (fun _ => 0) ++ lenB 8 (8 * s.size)
theorem padB_eq (s : ByteArray) : padB s = s ++ bytesB 1 (fun _ => 128) ++ bytesB (fillN s.size) (fun _ => 0) ++ lenB 8 (8 * s.size) := by unfold padB; rfl
theorem padLen_eq (n : Nat) : n + 1 + fillN n + 8 = padLen n := by unfold padLen fillN; omega
def padF (n : Nat) (f : Nat → Nat) (j : Nat) : Nat := if j < n then f j else if j = n then 128 else if j < padLen n - 8 then 0 else 8 * n / 256 ^ (padLen n - 1 - j) % 256
theorem padF_lt (n : Nat) (f : Nat → Nat) (hf : ∀ j, j < n → f j < 256) (j : Nat) : padF n f j < 256 := by
  unfold padF
  split
  · exact hf _ ‹_›
  split
  · decide
  split
  · decide
  exact Nat.mod_lt _ (by decide)
theorem padB_of (n : Nat) (f : Nat → Nat) : padB (bytesB n f) = bytesB (padLen n) (padF n f) := by
  have hl := padLen_eq n
  rw [padB_eq, bytesB_size, lenB, bytesB_append, bytesB_append, bytesB_append, hl]
  refine bytesB_congr fun i hi => ?_
  unfold padF
  by_cases h1 : i < n
  · rw [if_pos (by omega), if_pos (by omega), if_pos h1, if_pos h1]
  by_cases h2 : i = n
  · rw [if_pos (by omega), if_pos (by omega), if_neg h1, if_neg h1, if_pos h2]
  by_cases h3 : i < padLen n - 8
  · rw [if_pos (by omega), if_neg (by omega), if_neg h1, if_neg h2, if_pos h3]
  · rw [if_neg (by omega), if_neg h1, if_neg h2, if_neg h3, show 8 - 1 - (i - (n + 1 + fillN n)) = padLen n - 1 - i from by omega]
theorem padB_size (s : ByteArray) : (padB s).size = padLen s.size := by
  rw [bytes_of s, padB_of, bytesB_size, bytesB_size]
theorem one_byte (x : UInt8) : ({ data := #[x] } : ByteArray) = bytesB 1 fun _ => x.toNat := by
  unfold bytesB
  simp

theorem elByteD : El Try.prog 65 5 1 1 (.int .u8 0) := El.mk (by kernel_rfl) (by kernel_rfl)
theorem undStrD : Try.prog.underlying 9 = some .string := by kernel_rfl
theorem undBytesD : Try.prog.underlying 65 = some (.slice 5) := by kernel_rfl
theorem undByteD : Try.prog.underlying 5 = some (.int .u8) := by kernel_rfl
theorem sizeByteD : (Try.prog.info? 5).map (·.size) = some 1 := by kernel_rfl
theorem wrap_mod8 (x : Nat) : IntKind.u8.wrap ((x : Nat) : Int) = ((x % 256 : Nat) : Int) := by
  simp [IntKind.wrap, IntKind.bits, IntKind.signed]
/-- The last eight bytes, of which k are written. -/
def tailR (B k : Nat) : Array Value := rowOf 8 fun j => .int .u8 ((if 8 ≤ j + k then B / 256 ^ (7 - j) % 256 else 0 : Nat) : Int)
theorem tailR_size (B k : Nat) : (tailR B k).size = 8 := rowOf_size _ _
theorem tailR_zero (B : Nat) : tailR B 0 = rowOf 8 fun _ => .int .u8 0 := rowOf_congr fun i hi => by rw [if_neg (by omega)]; rfl
theorem tailR_set (B k i : Nat) (hk : k < 8) (hi : i = 7 - k) : (tailR B k).setIfInBounds i (.int .u8 ((B / 256 ^ k % 256 : Nat) : Int)) = tailR B (k + 1) := by
  unfold tailR
  subst hi
  apply Array.ext_getElem?
  intro j
  rw [Array.getElem?_setIfInBounds]
  by_cases h8 : j < 8
  · rw [rowOf_get _ _ _ h8, rowOf_get _ _ _ h8]
    by_cases hj : 7 - k = j
    · subst hj
      rw [if_pos rfl, if_pos (by rw [rowOf_size]; omega), if_pos (by omega), show 7 - (7 - k) = k from by omega]
    · rw [if_neg hj]
      by_cases h2 : 8 ≤ j + k
      · rw [if_pos h2, if_pos (by omega)]
      · rw [if_neg h2, if_neg (by omega)]
  · rw [if_neg (by omega), Array.getElem?_eq_none (by rw [rowOf_size]; omega), Array.getElem?_eq_none (by rw [rowOf_size]; omega)]
theorem tailR_get (B j : Nat) (hj : j < 8) : (tailR B 8)[j]? = some (.int .u8 ((B / 256 ^ (8 - 1 - j) % 256 : Nat) : Int)) := by
  unfold tailR
  rw [rowOf_get _ _ _ hj, if_pos (by omega), show 8 - 1 - j = 7 - j from by omega]

theorem pad_long (s : ByteArray) (h : 4096 < s.size) (h1 : s.size < 2 ^ 62) (w : World) :
    Calls Try.prog 40 #[.string s] w fun e w' => e = .returned (.tuple #[.string { data := #[] }, .int .i64 2]) ∧ Ext w w' := by
  have d0 : decide ((s.size : Int) > 4096) = true := decide_eq_true (by omega)
  have d1 : (4096 : Int) < (s.size : Int) := by omega
  go_enter Try.func40, Try.ntmps40
  have hm := Mem.refl w []
  go_wp2_with ((first | refine wpList_skip (by rfl) ?_ | (refine wlL (hm := hm) (hu := by first | exact undState) (hi := by (try simp only [rowOf_size, tailR_size]); first | exact sizeState) (h := ?_); (try simp only [Act.put, k1, k2, k3]); (try simp only [← idV_eq])) | refine wlLC (hm := hm) (hu := by first | exact undByteD) (h := ?_) | (refine wlS (hm := hm) (hv := (by first | rfl | exact idV_eq _ | exact labV_eq _ _ | exact rectV_eq _ _ _ _)) (hi := by (try simp only [rowOf_size, tailR_size]); first | exact sizeState) (hs := by first | (simp only [rowOf_size, tailR_size]; done) | rfl) (h := ?_); clear hm; intro w1 hm; (try simp only [rowOf_set, k1, k2, k3, Value.cells, Act.eval, k7, k8, k9, kA, Option.getD_some] at hm)) | (refine wlSC (hm := hm) (hi := by first | exact sizeByteD) (ho := by first | decide | (simp only [rowOf_size, tailR_size]; omega) | (simp; done)) (h := ?_); clear hm; intro w1 hm; (try simp only [rowOf_set, k1, k2, k3, Value.cells, Act.eval, k7, k8, k9, kA, Option.getD_some] at hm)) | (refine wlA (hz := by first | exact zeroState) (hm := hm) (h := ?_); clear hm; intro b1 w1 hm; (try simp only [rowOf_set, k1, k2, k3, Value.cells, Act.eval, k7, k8, k9, kA, Option.getD_some] at hm)) | (refine wl_box (by rfl) rfl (by first | exact idV_cells _ | exact labV_cells _ _ | exact rectV_cells _ _ _ _ | rfl) hm ?_; clear hm; intro b1 w1 hm) | (with_reducible first | refine stBs ?_ | refine stMs ?_ | refine stAp ?_ | refine stCo ?_)); (try simp only [k4, k5, k6, Act.put, k1, k2, k3]))
  go_ret2
  exact ⟨rfl, hm.ext⟩
theorem refPad_long (s : ByteArray) (h : 4096 < s.size) (h1 : s.size < 2 ^ 62) (w : World) :
    Calls Try.prog 41 #[.string s] w fun e w' => e = .returned (.tuple #[.string { data := #[] }, .int .i64 2]) ∧ Ext w w' := by
  have d0 : decide ((s.size : Int) > 4096) = true := decide_eq_true (by omega)
  have d1 : (4096 : Int) < (s.size : Int) := by omega
  go_enter Try.func41, Try.ntmps41
  have hm := Mem.refl w []
  go_wp2_with ((first | refine wpList_skip (by rfl) ?_ | (refine wlL (hm := hm) (hu := by first | exact undState) (hi := by (try simp only [rowOf_size, tailR_size]); first | exact sizeState) (h := ?_); (try simp only [Act.put, k1, k2, k3]); (try simp only [← idV_eq])) | refine wlLC (hm := hm) (hu := by first | exact undByteD) (h := ?_) | (refine wlS (hm := hm) (hv := (by first | rfl | exact idV_eq _ | exact labV_eq _ _ | exact rectV_eq _ _ _ _)) (hi := by (try simp only [rowOf_size, tailR_size]); first | exact sizeState) (hs := by first | (simp only [rowOf_size, tailR_size]; done) | rfl) (h := ?_); clear hm; intro w1 hm; (try simp only [rowOf_set, k1, k2, k3, Value.cells, Act.eval, k7, k8, k9, kA, Option.getD_some] at hm)) | (refine wlSC (hm := hm) (hi := by first | exact sizeByteD) (ho := by first | decide | (simp only [rowOf_size, tailR_size]; omega) | (simp; done)) (h := ?_); clear hm; intro w1 hm; (try simp only [rowOf_set, k1, k2, k3, Value.cells, Act.eval, k7, k8, k9, kA, Option.getD_some] at hm)) | (refine wlA (hz := by first | exact zeroState) (hm := hm) (h := ?_); clear hm; intro b1 w1 hm; (try simp only [rowOf_set, k1, k2, k3, Value.cells, Act.eval, k7, k8, k9, kA, Option.getD_some] at hm)) | (refine wl_box (by rfl) rfl (by first | exact idV_cells _ | exact labV_cells _ _ | exact rectV_cells _ _ _ _ | rfl) hm ?_; clear hm; intro b1 w1 hm) | (with_reducible first | refine stBs ?_ | refine stMs ?_ | refine stAp ?_ | refine stCo ?_)); (try simp only [k4, k5, k6, Act.put, k1, k2, k3]))
  go_ret2
  exact ⟨rfl, hm.ext⟩

theorem pad_ok (s : ByteArray) (h : s.size ≤ 4096) (w : World) :
    Calls Try.prog 40 #[.string s] w fun e w' => e = .returned (.tuple #[.string (padB s), .int .i64 0]) ∧ Ext w w' := by
  have d0 : decide ((s.size : Int) > 4096) = false := decide_eq_false (by omega)
  have d1 : ¬ (4096 : Int) < (s.size : Int) := by omega
  obtain ⟨n, hn⟩ : ∃ n, s.size = n := ⟨_, rfl⟩
  rw [hn] at h d0 d1
  have f0 : (n : Int).tmod 64 = ((n % 64 : Nat) : Int) := by rw [Int.tmod_eq_emod_of_nonneg (by omega)]; rfl
  have f1 : IntKind.i64.wrap (119 - ((n % 64 : Nat) : Int)) = ((119 - n % 64 : Nat) : Int) := by rw [wrap_i64 (by omega) (by omega)]; omega
  have f2 : ((119 - n % 64 : Nat) : Int).tmod 64 = ((fillN n : Nat) : Int) := by rw [Int.tmod_eq_emod_of_nonneg (by omega)]; rfl
  have hrep := repeat_c (fillN n) (by unfold fillN; omega)
  have HP := hid (show padB s = s ++ { data := #[128] } ++ bytesB (fillN n) (fun _ => 0) ++ lenB 8 (8 * n) from by rw [padB_eq, hn, one_byte 128]; rfl)
  generalize padB s = S at *
  obtain ⟨B, hB⟩ : ∃ B, 8 * n = B := ⟨_, rfl⟩
  have hB64 : B < 32769 := by omega
  have f3 : IntKind.i64.wrap (8 * (n : Int)) = (B : Int) := by rw [wrap_i64 (by omega) (by omega)]; omega
  have f4 : IntKind.u64.wrap (B : Int) = (B : Int) := wrap_u64 (by omega) (by omega)
  rw [hB] at HP
  go_enter Try.func40, Try.ntmps40
  have hm := Mem.refl w []
  go_wp2_with ((first | refine wpList_skip (by rfl) ?_ | (refine wlL (hm := hm) (hu := by first | exact undState) (hi := by (try simp only [rowOf_size, tailR_size]); first | exact sizeState) (h := ?_); (try simp only [Act.put, k1, k2, k3]); (try simp only [← idV_eq])) | refine wlLC (hm := hm) (hu := by first | exact undByteD) (h := ?_) | (refine wlS (hm := hm) (hv := (by first | rfl | exact idV_eq _ | exact labV_eq _ _ | exact rectV_eq _ _ _ _)) (hi := by (try simp only [rowOf_size, tailR_size]); first | exact sizeState) (hs := by first | (simp only [rowOf_size, tailR_size]; done) | rfl) (h := ?_); clear hm; intro w1 hm; (try simp only [rowOf_set, k1, k2, k3, Value.cells, Act.eval, k7, k8, k9, kA, Option.getD_some] at hm)) | (refine wlSC (hm := hm) (hi := by first | exact sizeByteD) (ho := by first | decide | (simp only [rowOf_size, tailR_size]; omega) | (simp; done)) (h := ?_); clear hm; intro w1 hm; (try simp only [rowOf_set, k1, k2, k3, Value.cells, Act.eval, k7, k8, k9, kA, Option.getD_some] at hm)) | (refine wlA (hz := by first | exact zeroState) (hm := hm) (h := ?_); clear hm; intro b1 w1 hm; (try simp only [rowOf_set, k1, k2, k3, Value.cells, Act.eval, k7, k8, k9, kA, Option.getD_some] at hm)) | (refine wl_box (by rfl) rfl (by first | exact idV_cells _ | exact labV_cells _ _ | exact rectV_cells _ _ _ _ | rfl) hm ?_; clear hm; intro b1 w1 hm) | (with_reducible first | refine stBs ?_ | refine stMs ?_ | refine stAp ?_ | refine stCo ?_)); (try simp only [k4, k5, k6, Act.put, k1, k2, k3]))
  refine Stop.go (wl_op (by rfl) fun K hK => ow_make (l := 8) (c := 8) hm elByteD rfl rfl (by decide) (by decide) (by decide) ?_)
  intro g w3 hm'; clear hm; have hm := hm'; clear hm'; refine hK _ _ ?_; clear hK K; simp only [Act.put, k1, k2, k3]; (try simp only [rowOf_set, k1, k2, k3, Value.cells, Act.eval, k7, k8, k9, kA, Option.getD_some] at hm)
  rw [show madeCells #[Value.int .u8 0] (8 * 1) = rowOf 8 fun _ => .int .u8 0 from made_one _ _, ← tailR_zero B] at hm
  go_wp2_with ((first | refine wpList_skip (by rfl) ?_ | (refine wlL (hm := hm) (hu := by first | exact undState) (hi := by (try simp only [rowOf_size, tailR_size]); first | exact sizeState) (h := ?_); (try simp only [Act.put, k1, k2, k3]); (try simp only [← idV_eq])) | refine wlLC (hm := hm) (hu := by first | exact undByteD) (h := ?_) | (refine wlS (hm := hm) (hv := (by first | rfl | exact idV_eq _ | exact labV_eq _ _ | exact rectV_eq _ _ _ _)) (hi := by (try simp only [rowOf_size, tailR_size]); first | exact sizeState) (hs := by first | (simp only [rowOf_size, tailR_size]; done) | rfl) (h := ?_); clear hm; intro w1 hm; (try simp only [rowOf_set, k1, k2, k3, Value.cells, Act.eval, k7, k8, k9, kA, Option.getD_some] at hm)) | (refine wlSC (hm := hm) (hi := by first | exact sizeByteD) (ho := by first | decide | (simp only [rowOf_size, tailR_size]; omega) | (simp; done)) (h := ?_); clear hm; intro w1 hm; (try simp only [rowOf_set, k1, k2, k3, Value.cells, Act.eval, k7, k8, k9, kA, Option.getD_some] at hm)) | (refine wlA (hz := by first | exact zeroState) (hm := hm) (h := ?_); clear hm; intro b1 w1 hm; (try simp only [rowOf_set, k1, k2, k3, Value.cells, Act.eval, k7, k8, k9, kA, Option.getD_some] at hm)) | (refine wl_box (by rfl) rfl (by first | exact idV_cells _ | exact labV_cells _ _ | exact rectV_cells _ _ _ _ | rfl) hm ?_; clear hm; intro b1 w1 hm) | (with_reducible first | refine stBs ?_ | refine stMs ?_ | refine stAp ?_ | refine stCo ?_)); (try simp only [k4, k5, k6, Act.put, k1, k2, k3]))
  have HF := hid hrep
  clear hrep f0 f1 f2 f3
  go_loopw [18] (fun vi wr => ∃ k : Nat, k ≤ 8 ∧ vi = .int .i64 (k : Int) ∧ Mem w [] [(g, .cells (tailR B k) 5 (0, 0))] wr)
    (fun vi _ => (8 - intOf vi).toNat)
  case atStart => exact ⟨0, by omega, rfl, hm⟩
  case round =>
    clear hm
    obtain ⟨k, hk, rfl, hm⟩ := hrel
    by_cases h8 : k < 8
    · have e1 : (k : Int) < 8 := by omega
      have w3' : IntKind.i64.wrap ((k : Int) + 1) = (k : Int) + 1 := wrap_i64 (by omega) (by omega)
      obtain ⟨i, hi⟩ : ∃ i, 7 - k = i := ⟨_, rfl⟩
      obtain ⟨q, hq⟩ : ∃ q, 8 * k = q := ⟨_, rfl⟩
      obtain ⟨p, hp⟩ : ∃ p, B / 2 ^ q = p := ⟨_, rfl⟩
      obtain ⟨z, hz⟩ : ∃ z, p % 256 = z := ⟨_, rfl⟩
      have HZ := hid (show B / 256 ^ k % 256 = z from by rw [← hz, ← hp, ← hq, show (256 : Nat) = 2 ^ 8 from rfl, ← Nat.pow_mul])
      have HI := hid (show i = 7 - k from hi.symm)
      have f1 : IntKind.i64.wrap (7 - (k : Int)) = (i : Int) := by rw [wrap_i64 (by omega) (by omega)]; omega
      have f3 : IntKind.i64.wrap (8 * (n : Int)) = (B : Int) := by rw [wrap_i64 (by omega) (by omega)]; omega
      have f5 : IntKind.i64.wrap (8 * (k : Int)) = (q : Int) := by rw [wrap_i64 (by omega) (by omega)]; omega
      have f6 : (B : Int) / 2 ^ q = (p : Int) := by rw [← hp]; push_cast; rfl
      have f7 : IntKind.u8.wrap (p : Int) = (z : Int) := by rw [wrap_mod8, hz]
      have i8 : (i : Int) < 8 := by omega
      have i0 : (0 : Int) ≤ (i : Int) := by omega
      have q0 : (0 : Int) ≤ (q : Int) := by omega
      have q1 : (q : Int) ≤ 64 := by omega
      clear hi hq hp hz
      go_wp2_with (with_reducible first | refine stAl ?_ | refine stBo ?_ | refine stLo ?_ | refine stSo ?_ | refine stBu ?_ | refine stBs ?_ | refine stMs ?_ | refine stAp ?_ | refine stCo ?_); refine Stop.go (wl_storeCell (i := 0) (by rfl) hm rfl rfl rfl rfl sizeByteD (by simp only [rowOf_size, tailR_size]; omega) ?_); clear hm; intro w5 hm; simp only [Act.put, k1, k2, k3]; (try simp only [rowOf_set, k1, k2, k3, Value.cells, Act.eval, k7, k8, k9, kA, Option.getD_some] at hm)
      rw [← HZ.out, tailR_set B k i h8 HI.out] at hm
      go_wp2_with ((first | refine wpList_skip (by rfl) ?_ | (refine wlL (hm := hm) (hu := by first | exact undState) (hi := by (try simp only [rowOf_size, tailR_size]); first | exact sizeState) (h := ?_); (try simp only [Act.put, k1, k2, k3]); (try simp only [← idV_eq])) | refine wlLC (hm := hm) (hu := by first | exact undByteD) (h := ?_) | (refine wlS (hm := hm) (hv := (by first | rfl | exact idV_eq _ | exact labV_eq _ _ | exact rectV_eq _ _ _ _)) (hi := by (try simp only [rowOf_size, tailR_size]); first | exact sizeState) (hs := by first | (simp only [rowOf_size, tailR_size]; done) | rfl) (h := ?_); clear hm; intro w1 hm; (try simp only [rowOf_set, k1, k2, k3, Value.cells, Act.eval, k7, k8, k9, kA, Option.getD_some] at hm)) | (refine wlSC (hm := hm) (hi := by first | exact sizeByteD) (ho := by first | decide | (simp only [rowOf_size, tailR_size]; omega) | (simp; done)) (h := ?_); clear hm; intro w1 hm; (try simp only [rowOf_set, k1, k2, k3, Value.cells, Act.eval, k7, k8, k9, kA, Option.getD_some] at hm)) | (refine wlA (hz := by first | exact zeroState) (hm := hm) (h := ?_); clear hm; intro b1 w1 hm; (try simp only [rowOf_set, k1, k2, k3, Value.cells, Act.eval, k7, k8, k9, kA, Option.getD_some] at hm)) | (refine wl_box (by rfl) rfl (by first | exact idV_cells _ | exact labV_cells _ _ | exact rectV_cells _ _ _ _ | rfl) hm ?_; clear hm; intro b1 w1 hm) | (with_reducible first | refine stBs ?_ | refine stMs ?_ | refine stAp ?_ | refine stCo ?_)); (try simp only [k4, k5, k6, Act.put, k1, k2, k3]))
      go_roundw
      case rel => exact ⟨k + 1, by omega, by go_num, hm⟩
      case measure => (simp [intOf]; try omega)
    · obtain rfl : k = 8 := by omega
      have hrep := HF.out
      have hfn : fillN n < 64 := by unfold fillN; omega
      rw [show ((fillN n : Nat) : Int) = (119 - (n : Int)) % 64 from by unfold fillN; omega] at hrep
      have s1 : ¬ 9223372036854775807 < n + 1 := by omega
      have s2 : ¬ 9223372036854775807 < n + 1 + (bytesB (fillN n) fun _ => 0).size := by rw [bytesB_size]; omega
      have s3 : ¬ 9223372036854775807 < n + 1 + (bytesB (fillN n) fun _ => 0).size + (lenB 8 B).size := by rw [lenB, bytesB_size, bytesB_size]; omega
      have hrs : ∀ w', Mem w [] [(g, .cells (tailR B 8) 5 (0, 0))] w' → (convert 65 9 (.slice (some ⟨g, 0, none⟩) 8 8)).run Try.prog w' = .ok (.string (lenB 8 B)) w' := fun w' h =>
        run_toString undBytesD undByteD undStrD h (i := 0) (off := 0) rfl _ (fun j hj => by rw [Nat.zero_add]; exact tailR_get B j hj)
      go_wp2_with ((first | refine wpList_skip (by rfl) ?_ | (refine wlL (hm := hm) (hu := by first | exact undState) (hi := by (try simp only [rowOf_size, tailR_size]); first | exact sizeState) (h := ?_); (try simp only [Act.put, k1, k2, k3]); (try simp only [← idV_eq])) | refine wlLC (hm := hm) (hu := by first | exact undByteD) (h := ?_) | (refine wlS (hm := hm) (hv := (by first | rfl | exact idV_eq _ | exact labV_eq _ _ | exact rectV_eq _ _ _ _)) (hi := by (try simp only [rowOf_size, tailR_size]); first | exact sizeState) (hs := by first | (simp only [rowOf_size, tailR_size]; done) | rfl) (h := ?_); clear hm; intro w1 hm; (try simp only [rowOf_set, k1, k2, k3, Value.cells, Act.eval, k7, k8, k9, kA, Option.getD_some] at hm)) | (refine wlSC (hm := hm) (hi := by first | exact sizeByteD) (ho := by first | decide | (simp only [rowOf_size, tailR_size]; omega) | (simp; done)) (h := ?_); clear hm; intro w1 hm; (try simp only [rowOf_set, k1, k2, k3, Value.cells, Act.eval, k7, k8, k9, kA, Option.getD_some] at hm)) | (refine wlA (hz := by first | exact zeroState) (hm := hm) (h := ?_); clear hm; intro b1 w1 hm; (try simp only [rowOf_set, k1, k2, k3, Value.cells, Act.eval, k7, k8, k9, kA, Option.getD_some] at hm)) | (refine wl_box (by rfl) rfl (by first | exact idV_cells _ | exact labV_cells _ _ | exact rectV_cells _ _ _ _ | rfl) hm ?_; clear hm; intro b1 w1 hm) | (with_reducible first | refine stBs ?_ | refine stMs ?_ | refine stAp ?_ | refine stCo ?_)); (try simp only [k4, k5, k6, Act.put, k1, k2, k3]))
      go_wp2_with (with_reducible first | refine stAl ?_ | refine stBo ?_ | refine stLo ?_ | refine stSo ?_ | refine stBu ?_ | refine stBs ?_ | refine stMs ?_ | refine stAp ?_ | refine stCo ?_); refine wp_quiet_mem (by kernel_rfl) (by kernel_rfl) hm ?_
      repeat ((first | refine wq_skip (by rfl) ?_ | (refine wqL (hu := by first | exact undState) (hi := by (try simp only [rowOf_size, tailR_size]); first | exact sizeState) (h := ?_); (try simp only [Act.put, k1, k2, k3]); (try simp only [← idV_eq])) | refine wqLC (hu := by first | exact undByteD) (h := ?_) | ((with_reducible show wpQuiet _ _ _ _ (⟨_, .call _, _, _, _, _⟩ :: _) _); refine wq_ask (by rfl) ?_; apply Exists.intro; refine ⟨?_, ?_⟩; (focus (intro w hC; go_simp; first | (go_at_call 66; exact (hrep _).mono fun e w' h => ⟨h.1, hC.call h.2⟩)))) | refine wqS (h := ?_)); (try simp only [k4, k5, k6, Act.put, k1, k2, k3]))
      refine wpQuiet_nil ?_; clear hm; intro w5 hm
      go_wp2_with ((first | refine wpList_skip (by rfl) ?_ | (refine wlL (hm := hm) (hu := by first | exact undState) (hi := by (try simp only [rowOf_size, tailR_size]); first | exact sizeState) (h := ?_); (try simp only [Act.put, k1, k2, k3]); (try simp only [← idV_eq])) | refine wlLC (hm := hm) (hu := by first | exact undByteD) (h := ?_) | (refine wlS (hm := hm) (hv := (by first | rfl | exact idV_eq _ | exact labV_eq _ _ | exact rectV_eq _ _ _ _)) (hi := by (try simp only [rowOf_size, tailR_size]); first | exact sizeState) (hs := by first | (simp only [rowOf_size, tailR_size]; done) | rfl) (h := ?_); clear hm; intro w1 hm; (try simp only [rowOf_set, k1, k2, k3, Value.cells, Act.eval, k7, k8, k9, kA, Option.getD_some] at hm)) | (refine wlSC (hm := hm) (hi := by first | exact sizeByteD) (ho := by first | decide | (simp only [rowOf_size, tailR_size]; omega) | (simp; done)) (h := ?_); clear hm; intro w1 hm; (try simp only [rowOf_set, k1, k2, k3, Value.cells, Act.eval, k7, k8, k9, kA, Option.getD_some] at hm)) | (refine wlA (hz := by first | exact zeroState) (hm := hm) (h := ?_); clear hm; intro b1 w1 hm; (try simp only [rowOf_set, k1, k2, k3, Value.cells, Act.eval, k7, k8, k9, kA, Option.getD_some] at hm)) | (refine wl_box (by rfl) rfl (by first | exact idV_cells _ | exact labV_cells _ _ | exact rectV_cells _ _ _ _ | rfl) hm ?_; clear hm; intro b1 w1 hm) | (with_reducible first | refine stBs ?_ | refine stMs ?_ | refine stAp ?_ | refine stCo ?_)); (try simp only [k4, k5, k6, Act.put, k1, k2, k3]))
      go_ret2
      exact ⟨by rw [HP.out]; rfl, hm.ext⟩

/-- The document's: the last eight bytes, from the last one. -/
theorem lenB_cons (i B : Nat) : bytesB 1 (fun _ => B / 256 ^ i % 256) ++ lenB i B = lenB (i + 1) B := by
  rw [lenB, lenB, bytesB_append, Nat.add_comm 1 i]
  refine bytesB_congr fun j hj => ?_
  by_cases h : j < 1
  · rw [if_pos h, show i + 1 - 1 - j = i from by omega]
  · rw [if_neg h, show i + 1 - 1 - j = i - 1 - (j - 1) from by omega]
theorem zeros_snoc (s : ByteArray) (k : Nat) : s ++ { data := #[128] } ++ (bytesB k fun _ => 0) ++ { data := #[0] } = s ++ { data := #[128] } ++ bytesB (k + 1) fun _ => 0 := by
  rw [ByteArray.append_assoc (b := bytesB k fun _ => 0), one_byte 0, bytesB_append]
  congr 1
  refine bytesB_congr fun i hi => ?_
  split <;> rfl
theorem zeros_none (s : ByteArray) : s ++ { data := #[128] } ++ (bytesB 0 fun _ => 0) = s ++ { data := #[128] } := by
  rw [show bytesB 0 (fun _ => 0) = { data := #[] } from by unfold bytesB; rfl]
  apply ByteArray.ext
  simp
theorem refPad_ok (s : ByteArray) (h : s.size ≤ 4096) (w : World) :
    Calls Try.prog 41 #[.string s] w fun e w' => e = .returned (.tuple #[.string (padB s), .int .i64 0]) ∧ Ext w w' := by
  have d0 : decide ((s.size : Int) > 4096) = false := decide_eq_false (by omega)
  have d1 : ¬ (4096 : Int) < (s.size : Int) := by omega
  obtain ⟨n, hn⟩ : ∃ n, s.size = n := ⟨_, rfl⟩
  rw [hn] at h d0 d1
  have s1 : ¬ 9223372036854775807 < n + 1 := by omega
  have HP := hid (show padB s = s ++ { data := #[128] } ++ bytesB (fillN n) (fun _ => 0) ++ lenB 8 (8 * n) from by rw [padB_eq, hn, one_byte 128]; rfl)
  generalize padB s = S at *
  obtain ⟨B, hB⟩ : ∃ B, 8 * n = B := ⟨_, rfl⟩
  have hB64 : B < 32769 := by omega
  have f3 : IntKind.i64.wrap (8 * (n : Int)) = (B : Int) := by rw [wrap_i64 (by omega) (by omega)]; omega
  rw [hB] at HP
  go_enter Try.func41, Try.ntmps41
  have hm := Mem.refl w []
  go_wp2_with ((first | refine wpList_skip (by rfl) ?_ | (refine wlL (hm := hm) (hu := by first | exact undState) (hi := by (try simp only [rowOf_size, tailR_size]); first | exact sizeState) (h := ?_); (try simp only [Act.put, k1, k2, k3]); (try simp only [← idV_eq])) | refine wlLC (hm := hm) (hu := by first | exact undByteD) (h := ?_) | (refine wlS (hm := hm) (hv := (by first | rfl | exact idV_eq _ | exact labV_eq _ _ | exact rectV_eq _ _ _ _)) (hi := by (try simp only [rowOf_size, tailR_size]); first | exact sizeState) (hs := by first | (simp only [rowOf_size, tailR_size]; done) | rfl) (h := ?_); clear hm; intro w1 hm; (try simp only [rowOf_set, k1, k2, k3, Value.cells, Act.eval, k7, k8, k9, kA, Option.getD_some] at hm)) | (refine wlSC (hm := hm) (hi := by first | exact sizeByteD) (ho := by first | decide | (simp only [rowOf_size, tailR_size]; omega) | (simp; done)) (h := ?_); clear hm; intro w1 hm; (try simp only [rowOf_set, k1, k2, k3, Value.cells, Act.eval, k7, k8, k9, kA, Option.getD_some] at hm)) | (refine wlA (hz := by first | exact zeroState) (hm := hm) (h := ?_); clear hm; intro b1 w1 hm; (try simp only [rowOf_set, k1, k2, k3, Value.cells, Act.eval, k7, k8, k9, kA, Option.getD_some] at hm)) | (refine wl_box (by rfl) rfl (by first | exact idV_cells _ | exact labV_cells _ _ | exact rectV_cells _ _ _ _ | rfl) hm ?_; clear hm; intro b1 w1 hm) | (with_reducible first | refine stBs ?_ | refine stMs ?_ | refine stAp ?_ | refine stCo ?_)); (try simp only [k4, k5, k6, Act.put, k1, k2, k3]))
  go_loopw [4] (fun vs wr => ∃ k : Nat, k ≤ fillN n ∧ vs = .string (s ++ { data := #[128] } ++ bytesB k fun _ => 0) ∧ Mem w [] [] wr)
    (fun vs _ => match vs with | .string o => 9000 - o.size | _ => 0)
  case atStart => exact ⟨0, by omega, by rw [zeros_none], hm⟩
  case round =>
    clear hm
    obtain ⟨k, hk, rfl, hm⟩ := hrel
    have hsz : (s ++ { data := #[128] } ++ bytesB k fun _ => 0).size = n + 1 + k := by rw [ByteArray.size_append, ByteArray.size_append, bytesB_size, hn]; rfl
    have HZ := hid (zeros_snoc s k)
    obtain ⟨o, ho⟩ : ∃ o, s ++ { data := #[128] } ++ (bytesB k fun _ => 0) = o := ⟨_, rfl⟩
    obtain ⟨m, hmk⟩ : ∃ m, n + 1 + k = m := ⟨_, rfl⟩
    rw [ho] at HZ hsz ⊢
    rw [hmk] at hsz
    have HK := hid hmk
    have HO := hid ho
    clear ho hmk
    by_cases hlt : k < fillN n
    · have e2 : ((m : Int) % 64 != 56) = true := by have := HK.out; rw [bne_iff_ne]; unfold fillN at hlt; omega
      have e1 : ((m : Int) % 64) ≠ 56 := by have := HK.out; unfold fillN at hlt; omega
      have s4 : ¬ 9223372036854775807 < m + 1 := by have := HK.out; unfold fillN at hlt; omega
      go_wp2_with ((first | refine wpList_skip (by rfl) ?_ | (refine wlL (hm := hm) (hu := by first | exact undState) (hi := by (try simp only [rowOf_size, tailR_size]); first | exact sizeState) (h := ?_); (try simp only [Act.put, k1, k2, k3]); (try simp only [← idV_eq])) | refine wlLC (hm := hm) (hu := by first | exact undByteD) (h := ?_) | (refine wlS (hm := hm) (hv := (by first | rfl | exact idV_eq _ | exact labV_eq _ _ | exact rectV_eq _ _ _ _)) (hi := by (try simp only [rowOf_size, tailR_size]); first | exact sizeState) (hs := by first | (simp only [rowOf_size, tailR_size]; done) | rfl) (h := ?_); clear hm; intro w1 hm; (try simp only [rowOf_set, k1, k2, k3, Value.cells, Act.eval, k7, k8, k9, kA, Option.getD_some] at hm)) | (refine wlSC (hm := hm) (hi := by first | exact sizeByteD) (ho := by first | decide | (simp only [rowOf_size, tailR_size]; omega) | (simp; done)) (h := ?_); clear hm; intro w1 hm; (try simp only [rowOf_set, k1, k2, k3, Value.cells, Act.eval, k7, k8, k9, kA, Option.getD_some] at hm)) | (refine wlA (hz := by first | exact zeroState) (hm := hm) (h := ?_); clear hm; intro b1 w1 hm; (try simp only [rowOf_set, k1, k2, k3, Value.cells, Act.eval, k7, k8, k9, kA, Option.getD_some] at hm)) | (refine wl_box (by rfl) rfl (by first | exact idV_cells _ | exact labV_cells _ _ | exact rectV_cells _ _ _ _ | rfl) hm ?_; clear hm; intro b1 w1 hm) | (with_reducible first | refine stBs ?_ | refine stMs ?_ | refine stAp ?_ | refine stCo ?_)); (try simp only [k4, k5, k6, Act.put, k1, k2, k3]))
      go_roundw
      case rel => exact ⟨k + 1, by omega, by rw [HZ.out], hm⟩
      case measure => (simp only [ByteArray.size_append, hsz, show ({ data := #[0] } : ByteArray).size = 1 from rfl]; have := HK.out; unfold fillN at hlt; omega)
    · obtain rfl : k = fillN n := by omega
      have e2 : ((m : Int) % 64 != 56) = false := by have := HK.out; unfold fillN at this; rw [bne_eq_false_iff_eq]; omega
      have e1 : ((m : Int) % 64) = 56 := by have := HK.out; unfold fillN at this; omega
      go_wp2_with ((first | refine wpList_skip (by rfl) ?_ | (refine wlL (hm := hm) (hu := by first | exact undState) (hi := by (try simp only [rowOf_size, tailR_size]); first | exact sizeState) (h := ?_); (try simp only [Act.put, k1, k2, k3]); (try simp only [← idV_eq])) | refine wlLC (hm := hm) (hu := by first | exact undByteD) (h := ?_) | (refine wlS (hm := hm) (hv := (by first | rfl | exact idV_eq _ | exact labV_eq _ _ | exact rectV_eq _ _ _ _)) (hi := by (try simp only [rowOf_size, tailR_size]); first | exact sizeState) (hs := by first | (simp only [rowOf_size, tailR_size]; done) | rfl) (h := ?_); clear hm; intro w1 hm; (try simp only [rowOf_set, k1, k2, k3, Value.cells, Act.eval, k7, k8, k9, kA, Option.getD_some] at hm)) | (refine wlSC (hm := hm) (hi := by first | exact sizeByteD) (ho := by first | decide | (simp only [rowOf_size, tailR_size]; omega) | (simp; done)) (h := ?_); clear hm; intro w1 hm; (try simp only [rowOf_set, k1, k2, k3, Value.cells, Act.eval, k7, k8, k9, kA, Option.getD_some] at hm)) | (refine wlA (hz := by first | exact zeroState) (hm := hm) (h := ?_); clear hm; intro b1 w1 hm; (try simp only [rowOf_set, k1, k2, k3, Value.cells, Act.eval, k7, k8, k9, kA, Option.getD_some] at hm)) | (refine wl_box (by rfl) rfl (by first | exact idV_cells _ | exact labV_cells _ _ | exact rectV_cells _ _ _ _ | rfl) hm ?_; clear hm; intro b1 w1 hm) | (with_reducible first | refine stBs ?_ | refine stMs ?_ | refine stAp ?_ | refine stCo ?_)); (try simp only [k4, k5, k6, Act.put, k1, k2, k3]))
      clear e1 e2 f3 hlt
      go_loopw [5, 6, 7] (fun vb vt vi wr => ∃ i : Nat, i ≤ 8 ∧ vi = .int .i64 (i : Int) ∧ vb = .int .i64 ((B / 256 ^ i : Nat) : Int) ∧ vt = .string (lenB i B) ∧ Mem w [] [] wr)
        (fun _ _ vi _ => (8 - intOf vi).toNat)
      case atStart => exact ⟨0, by omega, rfl, by simp, by rw [lenB]; unfold bytesB; rfl, hm⟩
      case round =>
        clear hm
        obtain ⟨i, hi, rfl, rfl, rfl, hm⟩ := hrel
        by_cases h8 : i < 8
        · have e1 : (i : Int) < 8 := by omega
          have w3' : IntKind.i64.wrap ((i : Int) + 1) = (i : Int) + 1 := wrap_i64 (by omega) (by omega)
          have HL := hid (lenB_cons i B)
          have hl8 : (lenB i B).size = i := by rw [lenB, bytesB_size]
          obtain ⟨t, ht⟩ : ∃ t, lenB i B = t := ⟨_, rfl⟩
          rw [ht] at HL hl8 ⊢
          have HD := hid (show B / 256 ^ (i + 1) = B / 256 ^ i / 256 from by rw [Nat.pow_succ, Nat.div_div_eq_div_mul])
          have hle := Nat.div_le_self B (256 ^ i)
          obtain ⟨x, hx⟩ : ∃ x, B / 256 ^ i = x := ⟨_, rfl⟩
          rw [hx] at HL HD hle ⊢
          clear hx ht
          obtain ⟨r, hr⟩ : ∃ r, x % 256 = r := ⟨_, rfl⟩
          obtain ⟨y, hy⟩ : ∃ y, x / 256 = y := ⟨_, rfl⟩
          rw [hr] at HL
          rw [hy] at HD
          have f1 : (x : Int) % 256 = (r : Int) := by omega
          have f2 : IntKind.u8.wrap (r : Int) = (r : Int) := wrap_u8 (by omega) (by omega)
          have f3 : (x : Int) / 256 = (y : Int) := by omega
          have f4' : IntKind.i64.wrap (y : Int) = (y : Int) := wrap_i64 (by omega) (by omega)
          clear hr hy
          go_wp2_with ((first | refine wpList_skip (by rfl) ?_ | (refine wlL (hm := hm) (hu := by first | exact undState) (hi := by (try simp only [rowOf_size, tailR_size]); first | exact sizeState) (h := ?_); (try simp only [Act.put, k1, k2, k3]); (try simp only [← idV_eq])) | refine wlLC (hm := hm) (hu := by first | exact undByteD) (h := ?_) | (refine wlS (hm := hm) (hv := (by first | rfl | exact idV_eq _ | exact labV_eq _ _ | exact rectV_eq _ _ _ _)) (hi := by (try simp only [rowOf_size, tailR_size]); first | exact sizeState) (hs := by first | (simp only [rowOf_size, tailR_size]; done) | rfl) (h := ?_); clear hm; intro w1 hm; (try simp only [rowOf_set, k1, k2, k3, Value.cells, Act.eval, k7, k8, k9, kA, Option.getD_some] at hm)) | (refine wlSC (hm := hm) (hi := by first | exact sizeByteD) (ho := by first | decide | (simp only [rowOf_size, tailR_size]; omega) | (simp; done)) (h := ?_); clear hm; intro w1 hm; (try simp only [rowOf_set, k1, k2, k3, Value.cells, Act.eval, k7, k8, k9, kA, Option.getD_some] at hm)) | (refine wlA (hz := by first | exact zeroState) (hm := hm) (h := ?_); clear hm; intro b1 w1 hm; (try simp only [rowOf_set, k1, k2, k3, Value.cells, Act.eval, k7, k8, k9, kA, Option.getD_some] at hm)) | (refine wl_box (by rfl) rfl (by first | exact idV_cells _ | exact labV_cells _ _ | exact rectV_cells _ _ _ _ | rfl) hm ?_; clear hm; intro b1 w1 hm) | (with_reducible first | refine stBs ?_ | refine stMs ?_ | refine stAp ?_ | refine stCo ?_)); (try simp only [k4, k5, k6, Act.put, k1, k2, k3]))
          refine Stop.go (wl_buildSlice (ps := [(0, .int .u8 (r : Int))]) (cells := #[.int .u8 (r : Int)]) (by rfl) hm elByteD (by decide) (by decide) (by simp [Act.eval]) (fill_one _ _ rfl) ?_)
          clear hm; intro gn w5 hm; simp only [Act.put, k1, k2, k3]
          have hrs := run_toString (P := Try.prog) undBytesD undByteD undStrD hm (i := 0) (off := 0) (n := 1) (cap := 1) rfl (fun _ => r) (fun j hj => by have h0 : j = 0 := Nat.lt_one_iff.1 hj; subst h0; rfl)
          have s6 : ¬ 9223372036854775807 < (bytesB 1 fun _ => r).size + i := by rw [bytesB_size]; omega
          go_wp2_with ((first | refine wpList_skip (by rfl) ?_ | (refine wlL (hm := hm) (hu := by first | exact undState) (hi := by (try simp only [rowOf_size, tailR_size]); first | exact sizeState) (h := ?_); (try simp only [Act.put, k1, k2, k3]); (try simp only [← idV_eq])) | refine wlLC (hm := hm) (hu := by first | exact undByteD) (h := ?_) | (refine wlS (hm := hm) (hv := (by first | rfl | exact idV_eq _ | exact labV_eq _ _ | exact rectV_eq _ _ _ _)) (hi := by (try simp only [rowOf_size, tailR_size]); first | exact sizeState) (hs := by first | (simp only [rowOf_size, tailR_size]; done) | rfl) (h := ?_); clear hm; intro w1 hm; (try simp only [rowOf_set, k1, k2, k3, Value.cells, Act.eval, k7, k8, k9, kA, Option.getD_some] at hm)) | (refine wlSC (hm := hm) (hi := by first | exact sizeByteD) (ho := by first | decide | (simp only [rowOf_size, tailR_size]; omega) | (simp; done)) (h := ?_); clear hm; intro w1 hm; (try simp only [rowOf_set, k1, k2, k3, Value.cells, Act.eval, k7, k8, k9, kA, Option.getD_some] at hm)) | (refine wlA (hz := by first | exact zeroState) (hm := hm) (h := ?_); clear hm; intro b1 w1 hm; (try simp only [rowOf_set, k1, k2, k3, Value.cells, Act.eval, k7, k8, k9, kA, Option.getD_some] at hm)) | (refine wl_box (by rfl) rfl (by first | exact idV_cells _ | exact labV_cells _ _ | exact rectV_cells _ _ _ _ | rfl) hm ?_; clear hm; intro b1 w1 hm) | (with_reducible first | refine stBs ?_ | refine stMs ?_ | refine stAp ?_ | refine stCo ?_)); (try simp only [k4, k5, k6, Act.put, k1, k2, k3]))
          go_roundw
          case rel => exact ⟨i + 1, by omega, by go_num, by rw [HD.out], by rw [HL.out], hm.tail⟩
          case measure => (simp [intOf]; try omega)
        · obtain rfl : i = 8 := by omega
          have s5 : ¬ 9223372036854775807 < m + (lenB 8 B).size := by rw [lenB, bytesB_size]; have := HK.out; unfold fillN at this; omega
          go_wp2_with ((first | refine wpList_skip (by rfl) ?_ | (refine wlL (hm := hm) (hu := by first | exact undState) (hi := by (try simp only [rowOf_size, tailR_size]); first | exact sizeState) (h := ?_); (try simp only [Act.put, k1, k2, k3]); (try simp only [← idV_eq])) | refine wlLC (hm := hm) (hu := by first | exact undByteD) (h := ?_) | (refine wlS (hm := hm) (hv := (by first | rfl | exact idV_eq _ | exact labV_eq _ _ | exact rectV_eq _ _ _ _)) (hi := by (try simp only [rowOf_size, tailR_size]); first | exact sizeState) (hs := by first | (simp only [rowOf_size, tailR_size]; done) | rfl) (h := ?_); clear hm; intro w1 hm; (try simp only [rowOf_set, k1, k2, k3, Value.cells, Act.eval, k7, k8, k9, kA, Option.getD_some] at hm)) | (refine wlSC (hm := hm) (hi := by first | exact sizeByteD) (ho := by first | decide | (simp only [rowOf_size, tailR_size]; omega) | (simp; done)) (h := ?_); clear hm; intro w1 hm; (try simp only [rowOf_set, k1, k2, k3, Value.cells, Act.eval, k7, k8, k9, kA, Option.getD_some] at hm)) | (refine wlA (hz := by first | exact zeroState) (hm := hm) (h := ?_); clear hm; intro b1 w1 hm; (try simp only [rowOf_set, k1, k2, k3, Value.cells, Act.eval, k7, k8, k9, kA, Option.getD_some] at hm)) | (refine wl_box (by rfl) rfl (by first | exact idV_cells _ | exact labV_cells _ _ | exact rectV_cells _ _ _ _ | rfl) hm ?_; clear hm; intro b1 w1 hm) | (with_reducible first | refine stBs ?_ | refine stMs ?_ | refine stAp ?_ | refine stCo ?_)); (try simp only [k4, k5, k6, Act.put, k1, k2, k3]))
          go_ret2
          exact ⟨by rw [HP.out, HO.out]; rfl, hm.ext⟩
end Go.Proofs.Ytdlfgoiakkkilaa
