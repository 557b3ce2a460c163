/-
  Sums: the words of a block.
-/
import Derived.Test.YtdlfgoiakkkilaaShaA
import Derived.Test.YtdlfgoiakkkilaaMem8
namespace Go.Proofs.Ytdlfgoiakkkilaa
open Go.RowKit
set_option linter.unusedSimpArgs false
set_option linter.unusedVariables false
set_option maxHeartbeats 1000000
set_option maxRecDepth 20000
attribute [local irreducible] wpQuiet wpList wpAnyH Calls

theorem undByte : Try.prog.underlying 5 = some (.int .u8) := by kernel_rfl
theorem sizeByte : (Try.prog.info? 5).map (·.size) = some 1 := by kernel_rfl
theorem undBytes' : Try.prog.underlying 65 = some (.slice 5) := by kernel_rfl
theorem zeroB64 : (Try.prog.info? 88).bind (·.zero) = some (.agg (rowOf 64 fun _ => .int .u8 0)) := by unfold rowOf; kernel_rfl
theorem elWord : El Try.prog 54 50 1 4 (.int .u32 0) := El.mk (by kernel_rfl) (by kernel_rfl)

theorem words_bad (s : ByteArray) (h : s.size ≠ 64) (h1 : s.size < 2 ^ 62) (w : World) :
    Calls Try.prog 42 #[.string s] w fun e w' => e = .returned (.tuple #[.slice none 0 0, .int .i64 1]) ∧ Ext w w' := by
  have d0 : ((s.size : Int) != 64) = true := by rw [bne_iff_ne]; omega
  go_enter Try.func42, Try.ntmps42
  have hm := Mem.refl w []
  go_wp2_with ((first | refine wpList_skip (by rfl) ?_ | (refine wlL (hm := hm) (hu := by first | exact undState) (hi := by (try simp only [rowOf_size, R1_size, R2_size]); first | exact sizeState) (h := ?_); (try simp only [Act.put, k1, k2, k3]); (try simp only [← idV_eq])) | refine wlLC (hm := hm) (hv := by first | exact G3.out | exact G8.out | exact G14.out | exact G16.out | rfl) (hu := by first | exact undU32 | exact undByte) (h := ?_) | (refine wlS (hm := hm) (hv := (by first | rfl | exact idV_eq _ | exact labV_eq _ _ | exact rectV_eq _ _ _ _)) (hi := by (try simp only [rowOf_size, R1_size, R2_size]); first | exact sizeState) (hs := by first | (simp only [rowOf_size, R1_size, R2_size]; done) | rfl) (h := ?_); clear hm; intro w1 hm; (try simp only [rowOf_set, k1, k2, k3, Value.cells, Act.eval, k7, k8, k9, kA, Option.getD_some] at hm)) | (refine wlSC (hm := hm) (hi := by first | exact sizeU32 | exact sizeByte) (ho := by first | decide | (simp only [rowOf_size, R1_size, R2_size]; omega) | (simp; done)) (h := ?_); clear hm; intro w1 hm; (try simp only [rowOf_set, k1, k2, k3, Value.cells, Act.eval, k7, k8, k9, kA, Option.getD_some] at hm)) | (refine wlA (hz := by first | exact zeroState | exact zeroB64) (hm := hm) (h := ?_); clear hm; intro b1 w1 hm; (try simp only [rowOf_set, k1, k2, k3, Value.cells, Act.eval, k7, k8, k9, kA, Option.getD_some] at hm)) | (refine wl_box (by rfl) rfl (by first | exact idV_cells _ | exact labV_cells _ _ | exact rectV_cells _ _ _ _ | rfl) hm ?_; clear hm; intro b1 w1 hm) | (with_reducible first | refine stBs ?_ | refine stMs ?_ | refine stAp ?_ | refine stCo ?_)); (try simp only [k4, k5, k6, Act.put, k1, k2, k3]))
  go_ret2
  exact ⟨rfl, hm.ext⟩
/-! ### The words -/
/-- The first j bytes of a word. -/
def be4 (f : Nat → Nat) (t : Nat) : Nat → Nat
  | 0 => 0
  | j + 1 => be4 f t j * 256 + f (4 * t + j)
theorem be4_lt (f : Nat → Nat) (t : Nat) (hf : ∀ j, j < 64 → f j < 256) (ht : t < 16) : ∀ j, j ≤ 4 → be4 f t j < 256 ^ j
  | 0, _ => by show 0 < 256 ^ 0; decide
  | j + 1, h => by
    have ih := be4_lt f t hf ht j (by omega)
    have := hf (4 * t + j) (by omega)
    rw [be4, Nat.pow_succ]
    generalize 256 ^ j = p at *
    omega
def nextW (l : List Nat) (k : Nat) : Nat := rot 1 (l.getD (k - 3) 0 ^^^ l.getD (k - 8) 0 ^^^ l.getD (k - 14) 0 ^^^ l.getD (k - 16) 0)
def wl (f : Nat → Nat) : Nat → List Nat
  | 0 => []
  | k + 1 => wl f k ++ [if k < 16 then be4 f k 4 else nextW (wl f k) k]
/-- A word. -/
def wd (f : Nat → Nat) (t : Nat) : Nat := (wl f (t + 1)).getD t 0
theorem wl_len (f : Nat → Nat) : ∀ k, (wl f k).length = k
  | 0 => rfl
  | k + 1 => by rw [wl, List.length_append, wl_len f k]; rfl
theorem wl_get (f : Nat → Nat) (t : Nat) : ∀ k, t < k → (wl f k).getD t 0 = wd f t
  | 0, h => by omega
  | k + 1, h => by
    by_cases e : t = k
    · subst e; rfl
    · rw [← wl_get f t k (by omega), wl, List.getD_eq_getElem?_getD, List.getD_eq_getElem?_getD, List.getElem?_append_left (by rw [wl_len]; omega)]
theorem wd_eq (f : Nat → Nat) (t : Nat) : wd f t = if t < 16 then be4 f t 4 else nextW (wl f t) t := by
  unfold wd
  rw [wl, List.getD_eq_getElem?_getD, List.getElem?_append_right (by rw [wl_len]; omega), wl_len, Nat.sub_self]
  rfl
theorem wd_low (f : Nat → Nat) (t : Nat) (h : t < 16) : wd f t = be4 f t 4 := by rw [wd_eq, if_pos h]
theorem wd_high (f : Nat → Nat) (t : Nat) (h : 16 ≤ t) : wd f t = rot 1 (wd f (t - 3) ^^^ wd f (t - 8) ^^^ wd f (t - 14) ^^^ wd f (t - 16)) := by
  rw [wd_eq, if_neg (by omega), nextW, wl_get f _ t (by omega), wl_get f _ t (by omega), wl_get f _ t (by omega), wl_get f _ t (by omega)]
theorem xor_lt4 {a b c d : Nat} (ha : a < 2 ^ 32) (hb : b < 2 ^ 32) (hc : c < 2 ^ 32) (hd : d < 2 ^ 32) : a ^^^ b ^^^ c ^^^ d < 2 ^ 32 := Nat.xor_lt_two_pow (Nat.xor_lt_two_pow (Nat.xor_lt_two_pow ha hb) hc) hd
theorem wd_lt (f : Nat → Nat) (hf : ∀ j, j < 64 → f j < 256) (t : Nat) : wd f t < 2 ^ 32 := by
  induction t using Nat.strongRecOn with
  | ind t ih =>
    by_cases h : t < 16
    · rw [wd_low f t h]; exact be4_lt f t hf h 4 (by omega)
    · rw [wd_high f t (by omega)]
      exact rot_lt _ _ (xor_lt4 (ih _ (by omega)) (ih _ (by omega)) (ih _ (by omega)) (ih _ (by omega)))

def R1 (f : Nat → Nat) (t j : Nat) : Array Value := rowOf 80 fun i => .int .u32 ((if i < t then be4 f i 4 else if i = t then be4 f t j else 0 : Nat) : Int)
def R2 (f : Nat → Nat) (t : Nat) : Array Value := rowOf 80 fun i => .int .u32 ((if i < t then wd f i else 0 : Nat) : Int)
theorem R1_get (f : Nat → Nat) (t j : Nat) (h : t < 16) : (R1 f t j)[t]? = some (.int .u32 ((be4 f t j : Nat) : Int)) := by
  unfold R1
  rw [rowOf_get _ _ _ (by omega), if_neg (by omega), if_pos rfl]
theorem R1_set (f : Nat → Nat) (t j : Nat) : (R1 f t j).setIfInBounds t (.int .u32 ((be4 f t (j + 1) : Nat) : Int)) = R1 f t (j + 1) := by
  unfold R1
  rw [rowOf_set]
  refine rowOf_congr fun i _ => ?_
  by_cases h : i = t
  · subst h; rw [if_pos rfl, if_neg (by omega), if_pos rfl]
  · rw [if_neg h]
    by_cases h2 : i < t
    · rw [if_pos h2, if_pos h2]
    · rw [if_neg h2, if_neg h2, if_neg h, if_neg h]
theorem R1_next (f : Nat → Nat) (t : Nat) : R1 f t 4 = R1 f (t + 1) 0 := by
  unfold R1
  refine rowOf_congr fun i _ => ?_
  by_cases h : i < t
  · rw [if_pos h, if_pos (by omega)]
  · by_cases h2 : i = t
    · subst h2; rw [if_neg h, if_pos rfl, if_pos (by omega)]
    · rw [if_neg h, if_neg h2, if_neg (by omega)]
      by_cases h3 : i = t + 1
      · rw [if_pos h3]; rfl
      · rw [if_neg h3]
theorem R1_zero (f : Nat → Nat) : R1 f 0 0 = rowOf 80 fun _ => .int .u32 0 := by
  unfold R1
  refine rowOf_congr fun i _ => ?_
  rw [if_neg (by omega)]
  by_cases h : i = 0
  · rw [if_pos h]; rfl
  · rw [if_neg h]; rfl
theorem R12 (f : Nat → Nat) : R1 f 16 0 = R2 f 16 := by
  unfold R1 R2
  refine rowOf_congr fun i _ => ?_
  by_cases h : i < 16
  · rw [if_pos h, if_pos h, wd_low f i h]
  · rw [if_neg h, if_neg h]
    by_cases h2 : i = 16
    · rw [if_pos h2]; rfl
    · rw [if_neg h2]
theorem R2_get (f : Nat → Nat) (t i : Nat) (h : i < t) (h80 : i < 80) : (R2 f t)[i]? = some (.int .u32 ((wd f i : Nat) : Int)) := by
  unfold R2
  rw [rowOf_get _ _ _ h80, if_pos h]
theorem R2_set (f : Nat → Nat) (t : Nat) : (R2 f t).setIfInBounds t (.int .u32 ((wd f t : Nat) : Int)) = R2 f (t + 1) := by
  unfold R2
  rw [rowOf_set]
  refine rowOf_congr fun i _ => ?_
  by_cases h : i = t
  · subst h; rw [if_pos rfl, if_pos (by omega)]
  · rw [if_neg h]
    by_cases h2 : i < t
    · rw [if_pos h2, if_pos (by omega)]
    · rw [if_neg h2, if_neg (by omega)]
theorem R1_size (f : Nat → Nat) (t j : Nat) : (R1 f t j).size = 80 := rowOf_size _ _
theorem R2_size (f : Nat → Nat) (t : Nat) : (R2 f t).size = 80 := rowOf_size _ _

/-- What Words answers: a new row of the words. -/
def Worded (f : Nat → Nat) (w : World) (e : Ending) (w' : World) : Prop := ∃ g, e = .returned (.tuple #[.slice (some ⟨g, 0, none⟩) 80 80, .int .i64 0]) ∧ Mem w [] [(g, .cells (R2 f 80) 50 (0, 0))] w'
theorem words_ok (f : Nat → Nat) (hf : ∀ j, j < 64 → f j < 256) (w : World) : Calls Try.prog 42 #[.string (bytesB 64 f)] w (Worded f w) := by
  have hsz := bytesB_size 64 f
  have d0 : (((bytesB 64 f).size : Int) != 64) = false := by rw [hsz]; rfl
  have HF := hid hf
  clear hf
  go_enter Try.func42, Try.ntmps42
  have hm := Mem.refl w []
  go_wp2_with ((first | refine wpList_skip (by rfl) ?_ | (refine wlL (hm := hm) (hu := by first | exact undState) (hi := by (try simp only [rowOf_size, R1_size, R2_size]); first | exact sizeState) (h := ?_); (try simp only [Act.put, k1, k2, k3]); (try simp only [← idV_eq])) | refine wlLC (hm := hm) (hv := by first | exact G3.out | exact G8.out | exact G14.out | exact G16.out | rfl) (hu := by first | exact undU32 | exact undByte) (h := ?_) | (refine wlS (hm := hm) (hv := (by first | rfl | exact idV_eq _ | exact labV_eq _ _ | exact rectV_eq _ _ _ _)) (hi := by (try simp only [rowOf_size, R1_size, R2_size]); first | exact sizeState) (hs := by first | (simp only [rowOf_size, R1_size, R2_size]; done) | rfl) (h := ?_); clear hm; intro w1 hm; (try simp only [rowOf_set, k1, k2, k3, Value.cells, Act.eval, k7, k8, k9, kA, Option.getD_some] at hm)) | (refine wlSC (hm := hm) (hi := by first | exact sizeU32 | exact sizeByte) (ho := by first | decide | (simp only [rowOf_size, R1_size, R2_size]; omega) | (simp; done)) (h := ?_); clear hm; intro w1 hm; (try simp only [rowOf_set, k1, k2, k3, Value.cells, Act.eval, k7, k8, k9, kA, Option.getD_some] at hm)) | (refine wlA (hz := by first | exact zeroState | exact zeroB64) (hm := hm) (h := ?_); clear hm; intro b1 w1 hm; (try simp only [rowOf_set, k1, k2, k3, Value.cells, Act.eval, k7, k8, k9, kA, Option.getD_some] at hm)) | (refine wl_box (by rfl) rfl (by first | exact idV_cells _ | exact labV_cells _ _ | exact rectV_cells _ _ _ _ | rfl) hm ?_; clear hm; intro b1 w1 hm) | (with_reducible first | refine stBs ?_ | refine stMs ?_ | refine stAp ?_ | refine stCo ?_)); (try simp only [k4, k5, k6, Act.put, k1, k2, k3]))
  refine Stop.go (wl_op (by rfl) fun K hK => ow_copy_full (i := 0) hm undBytes' sizeByte rfl rfl rfl HF.out (rowOf_size _ _) ?_)
  intro w2 hm'; clear hm; have hm := hm'; clear hm'; refine hK _ _ ?_; clear hK K; simp only [Act.put, k1, k2, k3]; (try simp only [rowOf_set, k1, k2, k3, Value.cells, Act.eval, k7, k8, k9, kA, Option.getD_some] at hm)
  go_wp2_with ((first | refine wpList_skip (by rfl) ?_ | (refine wlL (hm := hm) (hu := by first | exact undState) (hi := by (try simp only [rowOf_size, R1_size, R2_size]); first | exact sizeState) (h := ?_); (try simp only [Act.put, k1, k2, k3]); (try simp only [← idV_eq])) | refine wlLC (hm := hm) (hv := by first | exact G3.out | exact G8.out | exact G14.out | exact G16.out | rfl) (hu := by first | exact undU32 | exact undByte) (h := ?_) | (refine wlS (hm := hm) (hv := (by first | rfl | exact idV_eq _ | exact labV_eq _ _ | exact rectV_eq _ _ _ _)) (hi := by (try simp only [rowOf_size, R1_size, R2_size]); first | exact sizeState) (hs := by first | (simp only [rowOf_size, R1_size, R2_size]; done) | rfl) (h := ?_); clear hm; intro w1 hm; (try simp only [rowOf_set, k1, k2, k3, Value.cells, Act.eval, k7, k8, k9, kA, Option.getD_some] at hm)) | (refine wlSC (hm := hm) (hi := by first | exact sizeU32 | exact sizeByte) (ho := by first | decide | (simp only [rowOf_size, R1_size, R2_size]; omega) | (simp; done)) (h := ?_); clear hm; intro w1 hm; (try simp only [rowOf_set, k1, k2, k3, Value.cells, Act.eval, k7, k8, k9, kA, Option.getD_some] at hm)) | (refine wlA (hz := by first | exact zeroState | exact zeroB64) (hm := hm) (h := ?_); clear hm; intro b1 w1 hm; (try simp only [rowOf_set, k1, k2, k3, Value.cells, Act.eval, k7, k8, k9, kA, Option.getD_some] at hm)) | (refine wl_box (by rfl) rfl (by first | exact idV_cells _ | exact labV_cells _ _ | exact rectV_cells _ _ _ _ | rfl) hm ?_; clear hm; intro b1 w1 hm) | (with_reducible first | refine stBs ?_ | refine stMs ?_ | refine stAp ?_ | refine stCo ?_)); (try simp only [k4, k5, k6, Act.put, k1, k2, k3]))
  refine Stop.go (wl_op (by rfl) fun K hK => ow_make (l := 80) (c := 80) hm elWord rfl rfl (by decide) (by decide) (by decide) ?_)
  intro g w3 hm'; clear hm; have hm := hm'; clear hm'; refine hK _ _ ?_; clear hK K; simp only [Act.put, k1, k2, k3]; (try simp only [rowOf_set, k1, k2, k3, Value.cells, Act.eval, k7, k8, k9, kA, Option.getD_some] at hm)
  rw [show madeCells #[Value.int .u32 0] (80 * 1) = rowOf 80 fun _ => .int .u32 0 from made_one _ _, ← R1_zero f] at hm
  generalize bytesB 64 f = s at *
  go_wp2_with ((first | refine wpList_skip (by rfl) ?_ | (refine wlL (hm := hm) (hu := by first | exact undState) (hi := by (try simp only [rowOf_size, R1_size, R2_size]); first | exact sizeState) (h := ?_); (try simp only [Act.put, k1, k2, k3]); (try simp only [← idV_eq])) | refine wlLC (hm := hm) (hv := by first | exact G3.out | exact G8.out | exact G14.out | exact G16.out | rfl) (hu := by first | exact undU32 | exact undByte) (h := ?_) | (refine wlS (hm := hm) (hv := (by first | rfl | exact idV_eq _ | exact labV_eq _ _ | exact rectV_eq _ _ _ _)) (hi := by (try simp only [rowOf_size, R1_size, R2_size]); first | exact sizeState) (hs := by first | (simp only [rowOf_size, R1_size, R2_size]; done) | rfl) (h := ?_); clear hm; intro w1 hm; (try simp only [rowOf_set, k1, k2, k3, Value.cells, Act.eval, k7, k8, k9, kA, Option.getD_some] at hm)) | (refine wlSC (hm := hm) (hi := by first | exact sizeU32 | exact sizeByte) (ho := by first | decide | (simp only [rowOf_size, R1_size, R2_size]; omega) | (simp; done)) (h := ?_); clear hm; intro w1 hm; (try simp only [rowOf_set, k1, k2, k3, Value.cells, Act.eval, k7, k8, k9, kA, Option.getD_some] at hm)) | (refine wlA (hz := by first | exact zeroState | exact zeroB64) (hm := hm) (h := ?_); clear hm; intro b1 w1 hm; (try simp only [rowOf_set, k1, k2, k3, Value.cells, Act.eval, k7, k8, k9, kA, Option.getD_some] at hm)) | (refine wl_box (by rfl) rfl (by first | exact idV_cells _ | exact labV_cells _ _ | exact rectV_cells _ _ _ _ | rfl) hm ?_; clear hm; intro b1 w1 hm) | (with_reducible first | refine stBs ?_ | refine stMs ?_ | refine stAp ?_ | refine stCo ?_)); (try simp only [k4, k5, k6, Act.put, k1, k2, k3]))
  clear d0 hsz
  go_loopw [17] (fun vi wr => ∃ t : Nat, t ≤ 16 ∧ vi = .int .i64 (t : Int) ∧ Mem w [] [(g, .cells (R1 f t 0) 50 (0, 0)), (b1, .cells (rowOf 64 fun j => .int .u8 ((f j : Nat) : Int)) 88 (0, 0))] wr)
    (fun vi _ => (16 - intOf vi).toNat)
  case atStart => exact ⟨0, by omega, rfl, hm⟩
  case round =>
    clear hm
    obtain ⟨t, ht, rfl, hm⟩ := hrel
    by_cases h16 : t < 16
    · have d1 : (t : Int) < 16 := by omega
      obtain ⟨q, hq⟩ : ∃ q, 4 * t = q := ⟨_, rfl⟩
      have w1 : IntKind.i64.wrap (4 * (t : Int)) = (q : Int) := by rw [wrap_i64 (by omega) (by omega)]; omega
      have w2' : IntKind.i64.wrap ((t : Int) + 1) = (t : Int) + 1 := wrap_i64 (by omega) (by omega)
      have q0 : (0 : Int) ≤ (q : Int) := by omega
      have q1 : (q : Int) ≤ 64 := by omega
      have q2 : (q : Int) ≤ 60 := by omega
      have HQ := hid hq
      clear hq
      go_wp2_with ((first | refine wpList_skip (by rfl) ?_ | (refine wlL (hm := hm) (hu := by first | exact undState) (hi := by (try simp only [rowOf_size, R1_size, R2_size]); first | exact sizeState) (h := ?_); (try simp only [Act.put, k1, k2, k3]); (try simp only [← idV_eq])) | refine wlLC (hm := hm) (hv := by first | exact G3.out | exact G8.out | exact G14.out | exact G16.out | rfl) (hu := by first | exact undU32 | exact undByte) (h := ?_) | (refine wlS (hm := hm) (hv := (by first | rfl | exact idV_eq _ | exact labV_eq _ _ | exact rectV_eq _ _ _ _)) (hi := by (try simp only [rowOf_size, R1_size, R2_size]); first | exact sizeState) (hs := by first | (simp only [rowOf_size, R1_size, R2_size]; done) | rfl) (h := ?_); clear hm; intro w1 hm; (try simp only [rowOf_set, k1, k2, k3, Value.cells, Act.eval, k7, k8, k9, kA, Option.getD_some] at hm)) | (refine wlSC (hm := hm) (hi := by first | exact sizeU32 | exact sizeByte) (ho := by first | decide | (simp only [rowOf_size, R1_size, R2_size]; omega) | (simp; done)) (h := ?_); clear hm; intro w1 hm; (try simp only [rowOf_set, k1, k2, k3, Value.cells, Act.eval, k7, k8, k9, kA, Option.getD_some] at hm)) | (refine wlA (hz := by first | exact zeroState | exact zeroB64) (hm := hm) (h := ?_); clear hm; intro b1 w1 hm; (try simp only [rowOf_set, k1, k2, k3, Value.cells, Act.eval, k7, k8, k9, kA, Option.getD_some] at hm)) | (refine wl_box (by rfl) rfl (by first | exact idV_cells _ | exact labV_cells _ _ | exact rectV_cells _ _ _ _ | rfl) hm ?_; clear hm; intro b1 w1 hm) | (with_reducible first | refine stBs ?_ | refine stMs ?_ | refine stAp ?_ | refine stCo ?_)); (try simp only [k4, k5, k6, Act.put, k1, k2, k3]))
      go_loopw [25] (fun vj wr => ∃ j : Nat, j ≤ 4 ∧ vj = .int .i64 (j : Int) ∧ Mem w [] [(g, .cells (R1 f t j) 50 (0, 0)), (b1, .cells (rowOf 64 fun j => .int .u8 ((f j : Nat) : Int)) 88 (0, 0))] wr)
        (fun vj _ => (4 - intOf vj).toNat)
      case atStart => exact ⟨0, by omega, rfl, hm⟩
      case round =>
        clear hm
        obtain ⟨j, hj, rfl, hm⟩ := hrel
        by_cases h4 : j < 4
        · have e1 : (j : Int) < 4 := by omega
          have w3' : IntKind.i64.wrap ((j : Int) + 1) = (j : Int) + 1 := wrap_i64 (by omega) (by omega)
          have hb := be4_lt f t HF.out h16 j (by omega)
          have hfb := HF.out (q + j) (by have := HQ.out; omega)
          have hp3 : 256 ^ j ≤ 256 ^ 3 := Nat.pow_le_pow_right (by omega) (by omega)
          have hN := be4_lt f t HF.out h16 (j + 1) (by omega)
          have hp4 : 256 ^ (j + 1) ≤ 256 ^ 4 := Nat.pow_le_pow_right (by omega) (by omega)
          have HS := hid (show be4 f t (j + 1) = be4 f t j * 256 + f (q + j) from by rw [be4, HQ.out])
          have hxy : ∀ v y, v < 2 ^ 24 → y < 256 → v * 256 ||| y = v * 256 + y := fun v y hv hy => by
            rw [Nat.mul_comm, show (256 : Nat) = 2 ^ 8 from rfl, Nat.two_pow_add_eq_or_of_lt hy]
          obtain ⟨v, hv⟩ : ∃ v, be4 f t j = v := ⟨_, rfl⟩
          obtain ⟨y, hy⟩ : ∃ y, f (q + j) = y := ⟨_, rfl⟩
          rw [hv] at hb HS
          rw [hy] at hfb HS
          have hv24 : v < 2 ^ 24 := by have : (256 : Nat) ^ 3 = 2 ^ 24 := by decide
                                       omega
          have f1 : IntKind.u32.wrap ((v : Int) * 256) = (v : Int) * 256 := wrap_u32 (by omega) (by omega)
          have f2 : IntKind.u32.wrap (y : Int) = (y : Int) := wrap_u32 (by omega) (by omega)
          have f3 : bits .or .u32 ((v : Int) * 256) (y : Int) = ((be4 f t (j + 1) : Nat) : Int) := by
            have := u32_or_nat (v * 256) y (by omega) (by omega)
            rw [hxy v y hv24 hfb, ← HS.out] at this
            rw [← this, Int.natCast_mul]; rfl
          have HV := hid hv
          have HY := hid hy
          obtain ⟨z, hz⟩ : ∃ z, be4 f t (j + 1) = z := ⟨_, rfl⟩
          rw [hz] at f3
          have HZ := hid hz
          clear hv hy hz hN hp3 hp4 hxy HS hb
          have t80 : (t : Int) < 80 := by omega
          go_wp2_with (with_reducible first | refine stAl ?_ | refine stBo ?_ | refine stLo ?_ | refine stSo ?_ | refine stBu ?_ | refine stBs ?_ | refine stMs ?_ | refine stAp ?_ | refine stCo ?_); refine Stop.go (wl_loadCell (i := 1) (by rfl) hm rfl rfl (by rw [rowOf_get _ _ (q + j) (by omega), HY.out]) undByte rfl ?_); simp only [Act.put, k1, k2, k3]
          go_wp2_with (with_reducible first | refine stAl ?_ | refine stBo ?_ | refine stLo ?_ | refine stSo ?_ | refine stBu ?_ | refine stBs ?_ | refine stMs ?_ | refine stAp ?_ | refine stCo ?_); refine Stop.go (wl_loadCell (i := 0) (by rfl) hm rfl rfl (by rw [R1_get f t j h16, HV.out]) undU32 rfl ?_); simp only [Act.put, k1, k2, k3]
          go_wp2_with (with_reducible first | refine stAl ?_ | refine stBo ?_ | refine stLo ?_ | refine stSo ?_ | refine stBu ?_ | refine stBs ?_ | refine stMs ?_ | refine stAp ?_ | refine stCo ?_); refine Stop.go (wl_storeCell (i := 0) (by rfl) hm rfl rfl rfl rfl sizeU32 (by simp only [rowOf_size, R1_size, R2_size]; omega) ?_); clear hm; intro w5 hm; simp only [Act.put, k1, k2, k3]; (try simp only [rowOf_set, k1, k2, k3, Value.cells, Act.eval, k7, k8, k9, kA, Option.getD_some] at hm)
          rw [← HZ.out, R1_set] at hm
          go_wp2_with ((first | refine wpList_skip (by rfl) ?_ | (refine wlL (hm := hm) (hu := by first | exact undState) (hi := by (try simp only [rowOf_size, R1_size, R2_size]); first | exact sizeState) (h := ?_); (try simp only [Act.put, k1, k2, k3]); (try simp only [← idV_eq])) | refine wlLC (hm := hm) (hv := by first | exact G3.out | exact G8.out | exact G14.out | exact G16.out | rfl) (hu := by first | exact undU32 | exact undByte) (h := ?_) | (refine wlS (hm := hm) (hv := (by first | rfl | exact idV_eq _ | exact labV_eq _ _ | exact rectV_eq _ _ _ _)) (hi := by (try simp only [rowOf_size, R1_size, R2_size]); first | exact sizeState) (hs := by first | (simp only [rowOf_size, R1_size, R2_size]; done) | rfl) (h := ?_); clear hm; intro w1 hm; (try simp only [rowOf_set, k1, k2, k3, Value.cells, Act.eval, k7, k8, k9, kA, Option.getD_some] at hm)) | (refine wlSC (hm := hm) (hi := by first | exact sizeU32 | exact sizeByte) (ho := by first | decide | (simp only [rowOf_size, R1_size, R2_size]; omega) | (simp; done)) (h := ?_); clear hm; intro w1 hm; (try simp only [rowOf_set, k1, k2, k3, Value.cells, Act.eval, k7, k8, k9, kA, Option.getD_some] at hm)) | (refine wlA (hz := by first | exact zeroState | exact zeroB64) (hm := hm) (h := ?_); clear hm; intro b1 w1 hm; (try simp only [rowOf_set, k1, k2, k3, Value.cells, Act.eval, k7, k8, k9, kA, Option.getD_some] at hm)) | (refine wl_box (by rfl) rfl (by first | exact idV_cells _ | exact labV_cells _ _ | exact rectV_cells _ _ _ _ | rfl) hm ?_; clear hm; intro b1 w1 hm) | (with_reducible first | refine stBs ?_ | refine stMs ?_ | refine stAp ?_ | refine stCo ?_)); (try simp only [k4, k5, k6, Act.put, k1, k2, k3]))
          go_roundw
          case rel => exact ⟨j + 1, by omega, by go_num, hm⟩
          case measure => (simp [intOf]; try omega)
        · obtain rfl : j = 4 := by omega
          rw [R1_next] at hm
          go_wp2_with ((first | refine wpList_skip (by rfl) ?_ | (refine wlL (hm := hm) (hu := by first | exact undState) (hi := by (try simp only [rowOf_size, R1_size, R2_size]); first | exact sizeState) (h := ?_); (try simp only [Act.put, k1, k2, k3]); (try simp only [← idV_eq])) | refine wlLC (hm := hm) (hv := by first | exact G3.out | exact G8.out | exact G14.out | exact G16.out | rfl) (hu := by first | exact undU32 | exact undByte) (h := ?_) | (refine wlS (hm := hm) (hv := (by first | rfl | exact idV_eq _ | exact labV_eq _ _ | exact rectV_eq _ _ _ _)) (hi := by (try simp only [rowOf_size, R1_size, R2_size]); first | exact sizeState) (hs := by first | (simp only [rowOf_size, R1_size, R2_size]; done) | rfl) (h := ?_); clear hm; intro w1 hm; (try simp only [rowOf_set, k1, k2, k3, Value.cells, Act.eval, k7, k8, k9, kA, Option.getD_some] at hm)) | (refine wlSC (hm := hm) (hi := by first | exact sizeU32 | exact sizeByte) (ho := by first | decide | (simp only [rowOf_size, R1_size, R2_size]; omega) | (simp; done)) (h := ?_); clear hm; intro w1 hm; (try simp only [rowOf_set, k1, k2, k3, Value.cells, Act.eval, k7, k8, k9, kA, Option.getD_some] at hm)) | (refine wlA (hz := by first | exact zeroState | exact zeroB64) (hm := hm) (h := ?_); clear hm; intro b1 w1 hm; (try simp only [rowOf_set, k1, k2, k3, Value.cells, Act.eval, k7, k8, k9, kA, Option.getD_some] at hm)) | (refine wl_box (by rfl) rfl (by first | exact idV_cells _ | exact labV_cells _ _ | exact rectV_cells _ _ _ _ | rfl) hm ?_; clear hm; intro b1 w1 hm) | (with_reducible first | refine stBs ?_ | refine stMs ?_ | refine stAp ?_ | refine stCo ?_)); (try simp only [k4, k5, k6, Act.put, k1, k2, k3]))
          go_roundw
          case rel => exact ⟨t + 1, by omega, by go_num, hm⟩
          case measure => (simp [intOf]; try omega)
    · obtain rfl : t = 16 := by omega
      rw [R12] at hm
      go_wp2_with ((first | refine wpList_skip (by rfl) ?_ | (refine wlL (hm := hm) (hu := by first | exact undState) (hi := by (try simp only [rowOf_size, R1_size, R2_size]); first | exact sizeState) (h := ?_); (try simp only [Act.put, k1, k2, k3]); (try simp only [← idV_eq])) | refine wlLC (hm := hm) (hv := by first | exact G3.out | exact G8.out | exact G14.out | exact G16.out | rfl) (hu := by first | exact undU32 | exact undByte) (h := ?_) | (refine wlS (hm := hm) (hv := (by first | rfl | exact idV_eq _ | exact labV_eq _ _ | exact rectV_eq _ _ _ _)) (hi := by (try simp only [rowOf_size, R1_size, R2_size]); first | exact sizeState) (hs := by first | (simp only [rowOf_size, R1_size, R2_size]; done) | rfl) (h := ?_); clear hm; intro w1 hm; (try simp only [rowOf_set, k1, k2, k3, Value.cells, Act.eval, k7, k8, k9, kA, Option.getD_some] at hm)) | (refine wlSC (hm := hm) (hi := by first | exact sizeU32 | exact sizeByte) (ho := by first | decide | (simp only [rowOf_size, R1_size, R2_size]; omega) | (simp; done)) (h := ?_); clear hm; intro w1 hm; (try simp only [rowOf_set, k1, k2, k3, Value.cells, Act.eval, k7, k8, k9, kA, Option.getD_some] at hm)) | (refine wlA (hz := by first | exact zeroState | exact zeroB64) (hm := hm) (h := ?_); clear hm; intro b1 w1 hm; (try simp only [rowOf_set, k1, k2, k3, Value.cells, Act.eval, k7, k8, k9, kA, Option.getD_some] at hm)) | (refine wl_box (by rfl) rfl (by first | exact idV_cells _ | exact labV_cells _ _ | exact rectV_cells _ _ _ _ | rfl) hm ?_; clear hm; intro b1 w1 hm) | (with_reducible first | refine stBs ?_ | refine stMs ?_ | refine stAp ?_ | refine stCo ?_)); (try simp only [k4, k5, k6, Act.put, k1, k2, k3]))
      go_loopw [9] (fun vi wr => ∃ t : Nat, 16 ≤ t ∧ t ≤ 80 ∧ vi = .int .i64 (t : Int) ∧ Mem w [] [(g, .cells (R2 f t) 50 (0, 0)), (b1, .cells (rowOf 64 fun j => .int .u8 ((f j : Nat) : Int)) 88 (0, 0))] wr)
        (fun vi _ => (80 - intOf vi).toNat)
      case atStart => exact ⟨16, by omega, by omega, rfl, hm⟩
      case round =>
        clear hm
        obtain ⟨t, ht16, ht80, rfl, hm⟩ := hrel
        by_cases h80 : t < 80
        · have e1 : (t : Int) < 80 := by omega
          have w3' : IntKind.i64.wrap ((t : Int) + 1) = (t : Int) + 1 := wrap_i64 (by omega) (by omega)
          have HW := hid (wd_high f t ht16)
          obtain ⟨i3, hi3⟩ : ∃ i, t - 3 = i := ⟨_, rfl⟩
          obtain ⟨i8, hi8⟩ : ∃ i, t - 8 = i := ⟨_, rfl⟩
          obtain ⟨i14, hi14⟩ : ∃ i, t - 14 = i := ⟨_, rfl⟩
          obtain ⟨i16, hi16⟩ : ∃ i, t - 16 = i := ⟨_, rfl⟩
          rw [hi3, hi8, hi14, hi16] at HW
          have v3 : IntKind.i64.wrap ((t : Int) - 3) = (i3 : Int) := by rw [wrap_i64 (by omega) (by omega)]; omega
          have v8 : IntKind.i64.wrap ((t : Int) - 8) = (i8 : Int) := by rw [wrap_i64 (by omega) (by omega)]; omega
          have v14 : IntKind.i64.wrap ((t : Int) - 14) = (i14 : Int) := by rw [wrap_i64 (by omega) (by omega)]; omega
          have v16 : IntKind.i64.wrap ((t : Int) - 16) = (i16 : Int) := by rw [wrap_i64 (by omega) (by omega)]; omega
          have b3 : (i3 : Int) < 80 := by omega
          have b8 : (i8 : Int) < 80 := by omega
          have b14 : (i14 : Int) < 80 := by omega
          have b16 : (i16 : Int) < 80 := by omega
          have g3 := R2_get f t i3 (by omega) (by omega)
          have g8 := R2_get f t i8 (by omega) (by omega)
          have g14 := R2_get f t i14 (by omega) (by omega)
          have g16 := R2_get f t i16 (by omega) (by omega)
          have l3 := wd_lt f HF.out i3
          have l8 := wd_lt f HF.out i8
          have l14 := wd_lt f HF.out i14
          have l16 := wd_lt f HF.out i16
          obtain ⟨x3, hx3⟩ : ∃ x, wd f i3 = x := ⟨_, rfl⟩
          obtain ⟨x8, hx8⟩ : ∃ x, wd f i8 = x := ⟨_, rfl⟩
          obtain ⟨x14, hx14⟩ : ∃ x, wd f i14 = x := ⟨_, rfl⟩
          obtain ⟨x16, hx16⟩ : ∃ x, wd f i16 = x := ⟨_, rfl⟩
          rw [hx3] at g3 l3 HW
          rw [hx8] at g8 l8 HW
          rw [hx14] at g14 l14 HW
          rw [hx16] at g16 l16 HW
          have f1 : bits .xor .u32 (x3 : Int) (x8 : Int) = ((x3 ^^^ x8 : Nat) : Int) := u32_xor_nat _ _ l3 l8
          have f2 : bits .xor .u32 ((x3 ^^^ x8 : Nat) : Int) (x14 : Int) = ((x3 ^^^ x8 ^^^ x14 : Nat) : Int) := u32_xor_nat _ _ (Nat.xor_lt_two_pow l3 l8) l14
          have f3 : bits .xor .u32 ((x3 ^^^ x8 ^^^ x14 : Nat) : Int) (x16 : Int) = ((x3 ^^^ x8 ^^^ x14 ^^^ x16 : Nat) : Int) := u32_xor_nat _ _ (Nat.xor_lt_two_pow (Nat.xor_lt_two_pow l3 l8) l14) l16
          have hrc := rotate_c (x3 ^^^ x8 ^^^ x14 ^^^ x16) 1 (xor_lt4 l3 l8 l14 l16) (by decide)
          rw [← HW.out] at hrc
          generalize x3 ^^^ x8 ^^^ x14 ^^^ x16 = y3 at *
          generalize x3 ^^^ x8 ^^^ x14 = y2 at *
          generalize x3 ^^^ x8 = y1 at *
          have G3 := hid g3
          have G8 := hid g8
          have G14 := hid g14
          have G16 := hid g16
          obtain ⟨z, hz⟩ : ∃ z, wd f t = z := ⟨_, rfl⟩
          rw [hz] at hrc
          have HZ := hid hz
          clear g3 g8 g14 g16 l3 l8 l14 l16 hx3 hx8 hx14 hx16 hi3 hi8 hi14 hi16 HW hz
          go_wp2_with ((first | refine wpList_skip (by rfl) ?_ | (refine wlL (hm := hm) (hu := by first | exact undState) (hi := by (try simp only [rowOf_size, R1_size, R2_size]); first | exact sizeState) (h := ?_); (try simp only [Act.put, k1, k2, k3]); (try simp only [← idV_eq])) | refine wlLC (hm := hm) (hv := by first | exact G3.out | exact G8.out | exact G14.out | exact G16.out | rfl) (hu := by first | exact undU32 | exact undByte) (h := ?_) | (refine wlS (hm := hm) (hv := (by first | rfl | exact idV_eq _ | exact labV_eq _ _ | exact rectV_eq _ _ _ _)) (hi := by (try simp only [rowOf_size, R1_size, R2_size]); first | exact sizeState) (hs := by first | (simp only [rowOf_size, R1_size, R2_size]; done) | rfl) (h := ?_); clear hm; intro w1 hm; (try simp only [rowOf_set, k1, k2, k3, Value.cells, Act.eval, k7, k8, k9, kA, Option.getD_some] at hm)) | (refine wlSC (hm := hm) (hi := by first | exact sizeU32 | exact sizeByte) (ho := by first | decide | (simp only [rowOf_size, R1_size, R2_size]; omega) | (simp; done)) (h := ?_); clear hm; intro w1 hm; (try simp only [rowOf_set, k1, k2, k3, Value.cells, Act.eval, k7, k8, k9, kA, Option.getD_some] at hm)) | (refine wlA (hz := by first | exact zeroState | exact zeroB64) (hm := hm) (h := ?_); clear hm; intro b1 w1 hm; (try simp only [rowOf_set, k1, k2, k3, Value.cells, Act.eval, k7, k8, k9, kA, Option.getD_some] at hm)) | (refine wl_box (by rfl) rfl (by first | exact idV_cells _ | exact labV_cells _ _ | exact rectV_cells _ _ _ _ | rfl) hm ?_; clear hm; intro b1 w1 hm) | (with_reducible first | refine stBs ?_ | refine stMs ?_ | refine stAp ?_ | refine stCo ?_)); (try simp only [k4, k5, k6, Act.put, k1, k2, k3]))
          go_wp2_with (with_reducible first | refine stAl ?_ | refine stBo ?_ | refine stLo ?_ | refine stSo ?_ | refine stBu ?_ | refine stBs ?_ | refine stMs ?_ | refine stAp ?_ | refine stCo ?_); refine wp_quiet_last 27 (by kernel_rfl) rfl (by kernel_rfl) (by kernel_rfl) hm ?_; simp only [List.take_succ_cons, List.take_zero, List.cons_append, List.nil_append, hush]
          repeat ((first | refine wq_skip (by rfl) ?_ | (refine wqL (hu := by first | exact undState) (hi := by (try simp only [rowOf_size, R1_size, R2_size]); first | exact sizeState) (h := ?_); (try simp only [Act.put, k1, k2, k3]); (try simp only [← idV_eq])) | refine wqLC (hv := by first | exact G3.out | exact G8.out | exact G14.out | exact G16.out | rfl) (hu := by first | exact undU32 | exact undByte) (h := ?_) | ((with_reducible show wpQuiet _ _ _ _ (⟨_, .call _, _, _, _, _⟩ :: _) _); refine wq_ask (by rfl) ?_; apply Exists.intro; refine ⟨?_, ?_⟩; (focus (intro w hC; go_simp; first | (go_at_call 67; exact (hrc _).mono fun e w' h => ⟨h.1, hC.call h.2⟩)))) | refine wqS (h := ?_)); (try simp only [k4, k5, k6, Act.put, k1, k2, k3]))
          refine wpQuiet_nil ?_; clear hm; intro w5 hm
          go_wp2_with ((first | refine wpList_skip (by rfl) ?_ | (refine wlL (hm := hm) (hu := by first | exact undState) (hi := by (try simp only [rowOf_size, R1_size, R2_size]); first | exact sizeState) (h := ?_); (try simp only [Act.put, k1, k2, k3]); (try simp only [← idV_eq])) | refine wlLC (hm := hm) (hv := by first | exact G3.out | exact G8.out | exact G14.out | exact G16.out | rfl) (hu := by first | exact undU32 | exact undByte) (h := ?_) | (refine wlS (hm := hm) (hv := (by first | rfl | exact idV_eq _ | exact labV_eq _ _ | exact rectV_eq _ _ _ _)) (hi := by (try simp only [rowOf_size, R1_size, R2_size]); first | exact sizeState) (hs := by first | (simp only [rowOf_size, R1_size, R2_size]; done) | rfl) (h := ?_); clear hm; intro w1 hm; (try simp only [rowOf_set, k1, k2, k3, Value.cells, Act.eval, k7, k8, k9, kA, Option.getD_some] at hm)) | (refine wlSC (hm := hm) (hi := by first | exact sizeU32 | exact sizeByte) (ho := by first | decide | (simp only [rowOf_size, R1_size, R2_size]; omega) | (simp; done)) (h := ?_); clear hm; intro w1 hm; (try simp only [rowOf_set, k1, k2, k3, Value.cells, Act.eval, k7, k8, k9, kA, Option.getD_some] at hm)) | (refine wlA (hz := by first | exact zeroState | exact zeroB64) (hm := hm) (h := ?_); clear hm; intro b1 w1 hm; (try simp only [rowOf_set, k1, k2, k3, Value.cells, Act.eval, k7, k8, k9, kA, Option.getD_some] at hm)) | (refine wl_box (by rfl) rfl (by first | exact idV_cells _ | exact labV_cells _ _ | exact rectV_cells _ _ _ _ | rfl) hm ?_; clear hm; intro b1 w1 hm) | (go_at_call 67; refine (hrc _).mono ?_; rintro e w1 ⟨rfl, hx⟩; replace hm := hm.call hx; clear hx) | (with_reducible first | refine stBs ?_ | refine stMs ?_ | refine stAp ?_ | refine stCo ?_)); (try simp only [k4, k5, k6, Act.put, k1, k2, k3]))
          rw [← HZ.out, R2_set] at hm
          go_roundw
          case rel => exact ⟨t + 1, by omega, by omega, by go_num, hm⟩
          case measure => (simp [intOf]; try omega)
        · obtain rfl : t = 80 := by omega
          go_wp2_with ((first | refine wpList_skip (by rfl) ?_ | (refine wlL (hm := hm) (hu := by first | exact undState) (hi := by (try simp only [rowOf_size, R1_size, R2_size]); first | exact sizeState) (h := ?_); (try simp only [Act.put, k1, k2, k3]); (try simp only [← idV_eq])) | refine wlLC (hm := hm) (hv := by first | exact G3.out | exact G8.out | exact G14.out | exact G16.out | rfl) (hu := by first | exact undU32 | exact undByte) (h := ?_) | (refine wlS (hm := hm) (hv := (by first | rfl | exact idV_eq _ | exact labV_eq _ _ | exact rectV_eq _ _ _ _)) (hi := by (try simp only [rowOf_size, R1_size, R2_size]); first | exact sizeState) (hs := by first | (simp only [rowOf_size, R1_size, R2_size]; done) | rfl) (h := ?_); clear hm; intro w1 hm; (try simp only [rowOf_set, k1, k2, k3, Value.cells, Act.eval, k7, k8, k9, kA, Option.getD_some] at hm)) | (refine wlSC (hm := hm) (hi := by first | exact sizeU32 | exact sizeByte) (ho := by first | decide | (simp only [rowOf_size, R1_size, R2_size]; omega) | (simp; done)) (h := ?_); clear hm; intro w1 hm; (try simp only [rowOf_set, k1, k2, k3, Value.cells, Act.eval, k7, k8, k9, kA, Option.getD_some] at hm)) | (refine wlA (hz := by first | exact zeroState | exact zeroB64) (hm := hm) (h := ?_); clear hm; intro b1 w1 hm; (try simp only [rowOf_set, k1, k2, k3, Value.cells, Act.eval, k7, k8, k9, kA, Option.getD_some] at hm)) | (refine wl_box (by rfl) rfl (by first | exact idV_cells _ | exact labV_cells _ _ | exact rectV_cells _ _ _ _ | rfl) hm ?_; clear hm; intro b1 w1 hm) | (with_reducible first | refine stBs ?_ | refine stMs ?_ | refine stAp ?_ | refine stCo ?_)); (try simp only [k4, k5, k6, Act.put, k1, k2, k3]))
          go_ret2
          exact ⟨g, rfl, hm.erase 1⟩
end Go.Proofs.Ytdlfgoiakkkilaa
