/-
  Sums: a state's bytes; the document's Bytes.
-/
import Derived.Test.YtdlfgoiakkkilaaShaN
import Derived.Test.YtdlfgoiakkkilaaShaI
namespace Go.Proofs.Ytdlfgoiakkkilaa
open Go.RowKit
set_option linter.unusedSimpArgs false
set_option linter.unusedVariables false
set_option maxHeartbeats 1000000
set_option maxRecDepth 20000
attribute [local irreducible] wpQuiet wpList wpAnyH Calls

def St.word (s : St) : Nat → Nat
  | 0 => s.a
  | 1 => s.b
  | 2 => s.c
  | 3 => s.d
  | _ => s.e
theorem St.word_lt {s : St} (h : s.ok) : ∀ i, s.word i < 2 ^ 32
  | 0 => h.1
  | 1 => h.2.1
  | 2 => h.2.2.1
  | 3 => h.2.2.2.1
  | _ + 4 => h.2.2.2.2
/-- A state's bytes, as a number. -/
def idN (s : St) : Nat := (((s.a * 4294967296 + s.b) * 4294967296 + s.c) * 4294967296 + s.d) * 4294967296 + s.e
theorem pow_256_4 (m : Nat) : 256 ^ (4 * m) = 4294967296 ^ m := by rw [Nat.pow_mul]
theorem up_word (x w m : Nat) (h : w < 2 ^ 32) : (x * 4294967296 + w) / 4294967296 ^ (m + 1) = x / 4294967296 ^ m := by
  rw [Nat.pow_succ, Nat.mul_comm (4294967296 ^ m), ← Nat.div_div_eq_div_mul, show (x * 4294967296 + w) / 4294967296 = x from by omega]
theorem low_byte (x w k : Nat) (hk : k < 4) : (x * 4294967296 + w) / 256 ^ (3 - k) % 256 = w / 256 ^ (3 - k) % 256 := by
  match k, hk with
  | 0, _ => show (x * 4294967296 + w) / 16777216 % 256 = w / 16777216 % 256; omega
  | 1, _ => show (x * 4294967296 + w) / 65536 % 256 = w / 65536 % 256; omega
  | 2, _ => show (x * 4294967296 + w) / 256 % 256 = w / 256 % 256; omega
  | 3, _ => show (x * 4294967296 + w) / 1 % 256 = w / 1 % 256; omega
theorem low_byte0 (w k : Nat) : w / 256 ^ (3 - k) % 256 = w / 256 ^ (3 - k) % 256 := rfl
theorem dig_idN {s : St} (h : s.ok) (i k : Nat) (hi : i < 5) (hk : k < 4) : dig (idN s) (4 * i + k) = s.word i / 256 ^ (3 - k) % 256 := by
  obtain ⟨ha, hb, hc, hd, he⟩ := h
  unfold dig
  rw [show 19 - (4 * i + k) = 4 * (4 - i) + (3 - k) from by omega, Nat.pow_add, ← Nat.div_div_eq_div_mul, pow_256_4]
  unfold idN
  match i, hi with
  | 0, _ => rw [show 4 - 0 = 0 + 1 + 1 + 1 + 1 from rfl, up_word _ _ _ he, up_word _ _ _ hd, up_word _ _ _ hc, up_word _ _ _ hb, Nat.pow_zero, Nat.div_one]; rfl
  | 1, _ => rw [show 4 - 1 = 0 + 1 + 1 + 1 from rfl, up_word _ _ _ he, up_word _ _ _ hd, up_word _ _ _ hc, Nat.pow_zero, Nat.div_one, low_byte _ _ _ hk]; rfl
  | 2, _ => rw [show 4 - 2 = 0 + 1 + 1 from rfl, up_word _ _ _ he, up_word _ _ _ hd, Nat.pow_zero, Nat.div_one, low_byte _ _ _ hk]; rfl
  | 3, _ => rw [show 4 - 3 = 0 + 1 from rfl, up_word _ _ _ he, Nat.pow_zero, Nat.div_one, low_byte _ _ _ hk]; rfl
  | 4, _ => rw [show 4 - 4 = 0 from rfl, Nat.pow_zero, Nat.div_one, low_byte _ _ _ hk]; rfl
theorem St.cell {s : St} (i : Nat) (h : i < 5) : (#[.int .u32 (s.a : Int), .int .u32 (s.b : Int), .int .u32 (s.c : Int), .int .u32 (s.d : Int), .int .u32 (s.e : Int)] : Array Value)[i]? = some (.int .u32 ((s.word i : Nat) : Int)) := by
  match i, h with
  | 0, _ => rfl
  | 1, _ => rfl
  | 2, _ => rfl
  | 3, _ => rfl
  | 4, _ => rfl

/-- The first n bytes of a place. -/
def bytR (a n : Nat) : Array Value := rowOf 20 fun j => .int .u8 ((if j < n then dig a j else 0 : Nat) : Int)
theorem bytR_size (a n : Nat) : (bytR a n).size = 20 := rowOf_size _ _
theorem bytR_zero (a : Nat) : bytR a 0 = rowOf 20 fun _ => .int .u8 0 := rowOf_congr fun i hi => by rw [if_neg (by omega)]; rfl
theorem bytR_all (a : Nat) : bytR a 20 = idC a := rowOf_congr fun i hi => by rw [if_pos hi]
theorem bytR_one (a n : Nat) : (bytR a n).all (·.oneCell') = true := rowOf_one _ _ fun _ _ => rfl
theorem bytR_set (a n : Nat) : (bytR a n).setIfInBounds n (.int .u8 ((dig a n : Nat) : Int)) = bytR a (n + 1) := by
  unfold bytR
  apply Array.ext_getElem?
  intro j
  rw [Array.getElem?_setIfInBounds]
  by_cases h8 : j < 20
  · rw [rowOf_get _ _ _ h8, rowOf_get _ _ _ h8]
    by_cases hj : n = j
    · subst hj
      rw [if_pos rfl, if_pos (by rw [rowOf_size]; omega), if_pos (by omega)]
    · rw [if_neg hj]
      by_cases h2 : j < n
      · rw [if_pos h2, if_pos (by omega)]
      · rw [if_neg h2, if_neg (by omega)]
  · rw [Array.getElem?_eq_none (by rw [rowOf_size]; omega), Array.getElem?_eq_none (by rw [rowOf_size]; omega)]
    split
    · rw [if_neg (by rw [rowOf_size]; omega)]
    · rfl
/-- The document fills each four bytes from the last one: of the four behind n, m. -/
def bytQ (a n m : Nat) : Array Value := rowOf 20 fun j => .int .u8 ((if j < n ∨ (n + 4 ≤ j + m ∧ j < n + 4) then dig a j else 0 : Nat) : Int)
theorem bytQ_size (a n m : Nat) : (bytQ a n m).size = 20 := rowOf_size _ _
theorem bytQ_zero (a n : Nat) : bytR a n = bytQ a n 0 := rowOf_congr fun i hi => by
  by_cases h : i < n
  · rw [if_pos h, if_pos (Or.inl h)]
  · rw [if_neg h, if_neg (by omega)]
theorem bytQ_all (a n : Nat) : bytQ a n 4 = bytR a (n + 4) := rowOf_congr fun i hi => by
  by_cases h : i < n + 4
  · rw [if_pos h, if_pos (by omega)]
  · rw [if_neg h, if_neg (by omega)]
theorem bytQ_set (a n m j : Nat) (hm : m < 4) (hj : j = n + 3 - m) : (bytQ a n m).setIfInBounds j (.int .u8 ((dig a j : Nat) : Int)) = bytQ a n (m + 1) := by
  unfold bytQ
  apply Array.ext_getElem?
  intro i
  rw [Array.getElem?_setIfInBounds]
  by_cases h8 : i < 20
  · rw [rowOf_get _ _ _ h8, rowOf_get _ _ _ h8]
    by_cases hi : j = i
    · subst hi
      rw [if_pos rfl, if_pos (by rw [rowOf_size]; omega), if_pos (by omega)]
    · rw [if_neg hi]
      by_cases h2 : i < n ∨ (n + 4 ≤ i + m ∧ i < n + 4)
      · rw [if_pos h2, if_pos (by omega)]
      · rw [if_neg h2, if_neg (by omega)]
  · rw [Array.getElem?_eq_none (by rw [rowOf_size]; omega), Array.getElem?_eq_none (by rw [rowOf_size]; omega)]
    split
    · rw [if_neg (by rw [rowOf_size]; omega)]
    · rfl
theorem idV_row (a : Nat) : Value.agg (bytR a 20) = idV a := by rw [bytR_all, idV_eq]
theorem wrap_mod8' (x : Nat) : IntKind.u8.wrap ((x : Nat) : Int) = ((x % 256 : Nat) : Int) := by
  simp [IntKind.wrap, IntKind.bits, IntKind.signed]

theorem refBytes_c (s : St) (hs : s.ok) (w : World) :
    Calls Try.prog 51 #[s.val] w fun e w' => e = .returned (idV (idN s)) ∧ Ext w w' := by
  rw [St.val_eq]
  have HW := hid (fun i k hi hk => dig_idN hs i k hi hk)
  have HC := hid (fun i h => St.cell (s := s) i h)
  have HL := hid (St.word_lt hs)
  obtain ⟨N, hN⟩ : ∃ N, idN s = N := ⟨_, rfl⟩
  rw [hN] at HW ⊢
  clear hN
  go_enter Try.func51, Try.ntmps51
  have hm := Mem.refl w []
  go_wp2_with (with_reducible first | refine stAl ?_ | refine stBo ?_ | refine stLo ?_ | refine stSo ?_ | refine stBu ?_ | refine stBs ?_ | refine stMs ?_ | refine stAp ?_ | refine stCo ?_); refine Stop.go (wl_box (by rfl) rfl (rfl) hm ?_); clear hm; intro b1 w1 hm; simp only [Act.put, k1, k2, k3]; (try simp only [rowOf_set, k1, k2, k3, Value.cells, Act.eval, k7, k8, k9, kA, Option.getD_some] at hm)
  go_wp2_with (with_reducible first | refine stAl ?_ | refine stBo ?_ | refine stLo ?_ | refine stSo ?_ | refine stBu ?_ | refine stBs ?_ | refine stMs ?_ | refine stAp ?_ | refine stCo ?_); refine Stop.go (wl_alloc (by rfl) zeroID rfl hm ?_); clear hm; intro b2 w2 hm; simp only [Act.put, k1, k2, k3]; (try simp only [rowOf_set, k1, k2, k3, Value.cells, Act.eval, k7, k8, k9, kA, Option.getD_some] at hm)
  go_wp2_with (with_reducible first | refine stAl ?_ | refine stBo ?_ | refine stLo ?_ | refine stSo ?_ | refine stBu ?_ | refine stBs ?_ | refine stMs ?_ | refine stAp ?_ | refine stCo ?_); refine Stop.go (wl_alloc (by rfl) zeroID rfl hm ?_); clear hm; intro b3 w3 hm; simp only [Act.put, k1, k2, k3]; (try simp only [rowOf_set, k1, k2, k3, Value.cells, Act.eval, k7, k8, k9, kA, Option.getD_some] at hm)
  rw [← bytR_zero N] at hm
  go_wp2_with ((first | refine wpList_skip (by rfl) ?_ | (refine wlL (hm := hm) (hu := by first | exact undState | exact undID) (hi := by (try simp only [rowOf_size, bytR_size, bytQ_size, idC_size]); first | exact sizeState | exact sizeID) (h := ?_); (try simp only [Act.put, k1, k2, k3]); (try simp only [← idV_eq])) | refine wlLC (hm := hm) (hv := by first | exact HCELL.out | rfl) (hu := by first | exact undU32 | exact undByteI) (h := ?_) | (refine wlS (hm := hm) (hv := (by first | rfl | exact idV_eq _ | exact labV_eq _ _ | exact rectV_eq _ _ _ _)) (hi := by (try simp only [rowOf_size, bytR_size, bytQ_size, idC_size]); first | exact sizeState | exact sizeID) (hs := by first | (simp only [rowOf_size, bytR_size, bytQ_size, idC_size]; done) | rfl) (h1 := by first | rfl | exact idC_one _ | exact rowOf_one _ _ (fun _ _ => rfl) | (simp only [List.size_toArray, List.length_cons, List.all_toArray', List.all_cons, List.all_nil, Value.oneCell', Bool.and_true, Bool.and_self]; done) | (simp [Value.oneCell']; done)) (h := ?_); clear hm; intro w1 hm; (try simp only [rowOf_set, k1, k2, k3, Value.cells, Act.eval, k7, k8, k9, kA, Option.getD_some] at hm)) | (refine wlSC (hm := hm) (hi := by first | exact sizeU32 | exact sizeByteI) (ho := by first | decide | (simp only [rowOf_size, bytR_size, bytQ_size, idC_size]; omega) | (simp; done)) (h := ?_); clear hm; intro w1 hm; (try simp only [rowOf_set, k1, k2, k3, Value.cells, Act.eval, k7, k8, k9, kA, Option.getD_some] at hm)) | (refine wlA (hz := by first | exact zeroState | exact zeroID) (hm := hm) (h := ?_); clear hm; intro b1 w1 hm; (try simp only [rowOf_set, k1, k2, k3, Value.cells, Act.eval, k7, k8, k9, kA, Option.getD_some] at hm)) | (refine wl_box (by rfl) rfl (by first | exact idV_cells _ | exact labV_cells _ _ | exact rectV_cells _ _ _ _ | rfl) hm ?_; clear hm; intro b1 w1 hm) | (with_reducible first | refine stBs ?_ | refine stMs ?_ | refine stAp ?_ | refine stCo ?_)); (try simp only [k4, k5, k6, Act.put, k1, k2, k3]))
  go_loopw [4] (fun vi wr => ∃ i : Nat, i ≤ 5 ∧ vi = .int .i64 (i : Int) ∧ Mem w [] [(b3, .cells (bytR N (4 * i)) 29 (0, 0)), (b2, .cells (bytR N 0) 29 (0, 0)), (b1, .cells #[.int .u32 (s.a : Int), .int .u32 (s.b : Int), .int .u32 (s.c : Int), .int .u32 (s.d : Int), .int .u32 (s.e : Int)] 52 (0, 0))] wr)
    (fun vi _ => (5 - intOf vi).toNat)
  case atStart => exact ⟨0, by omega, rfl, hm⟩
  case round =>
    clear hm
    obtain ⟨i, hi, rfl, hm⟩ := hrel
    by_cases h5 : i < 5
    · have e1 : (i : Int) < 5 := by omega
      have w3' : IntKind.i64.wrap ((i : Int) + 1) = (i : Int) + 1 := wrap_i64 (by omega) (by omega)
      have HCELL := hid (HC.out i h5)
      have hl := HL.out i
      obtain ⟨q, hq⟩ : ∃ q, 4 * i = q := ⟨_, rfl⟩
      have w1' : IntKind.i64.wrap (4 * (i : Int)) = (q : Int) := by rw [wrap_i64 (by omega) (by omega)]; omega
      have HD := hid (fun (m : Nat) (hm : m < 4) => show dig N (q + 3 - m) = s.word i / 256 ^ m % 256 from by
        have := HW.out i (3 - m) h5 (by omega)
        rw [← hq, show 4 * i + 3 - m = 4 * i + (3 - m) from by omega, this, show 3 - (3 - m) = m from by omega])
      have HQ := hid hq
      rw [hq, bytQ_zero] at hm
      clear hq
      obtain ⟨W, hW⟩ : ∃ W, s.word i = W := ⟨_, rfl⟩
      rw [hW] at HCELL hl HD
      clear hW
      go_wp2_with ((first | refine wpList_skip (by rfl) ?_ | (refine wlL (hm := hm) (hu := by first | exact undState | exact undID) (hi := by (try simp only [rowOf_size, bytR_size, bytQ_size, idC_size]); first | exact sizeState | exact sizeID) (h := ?_); (try simp only [Act.put, k1, k2, k3]); (try simp only [← idV_eq])) | refine wlLC (hm := hm) (hv := by first | exact HCELL.out | rfl) (hu := by first | exact undU32 | exact undByteI) (h := ?_) | (refine wlS (hm := hm) (hv := (by first | rfl | exact idV_eq _ | exact labV_eq _ _ | exact rectV_eq _ _ _ _)) (hi := by (try simp only [rowOf_size, bytR_size, bytQ_size, idC_size]); first | exact sizeState | exact sizeID) (hs := by first | (simp only [rowOf_size, bytR_size, bytQ_size, idC_size]; done) | rfl) (h1 := by first | rfl | exact idC_one _ | exact rowOf_one _ _ (fun _ _ => rfl) | (simp only [List.size_toArray, List.length_cons, List.all_toArray', List.all_cons, List.all_nil, Value.oneCell', Bool.and_true, Bool.and_self]; done) | (simp [Value.oneCell']; done)) (h := ?_); clear hm; intro w1 hm; (try simp only [rowOf_set, k1, k2, k3, Value.cells, Act.eval, k7, k8, k9, kA, Option.getD_some] at hm)) | (refine wlSC (hm := hm) (hi := by first | exact sizeU32 | exact sizeByteI) (ho := by first | decide | (simp only [rowOf_size, bytR_size, bytQ_size, idC_size]; omega) | (simp; done)) (h := ?_); clear hm; intro w1 hm; (try simp only [rowOf_set, k1, k2, k3, Value.cells, Act.eval, k7, k8, k9, kA, Option.getD_some] at hm)) | (refine wlA (hz := by first | exact zeroState | exact zeroID) (hm := hm) (h := ?_); clear hm; intro b1 w1 hm; (try simp only [rowOf_set, k1, k2, k3, Value.cells, Act.eval, k7, k8, k9, kA, Option.getD_some] at hm)) | (refine wl_box (by rfl) rfl (by first | exact idV_cells _ | exact labV_cells _ _ | exact rectV_cells _ _ _ _ | rfl) hm ?_; clear hm; intro b1 w1 hm) | (with_reducible first | refine stBs ?_ | refine stMs ?_ | refine stAp ?_ | refine stCo ?_)); (try simp only [k4, k5, k6, Act.put, k1, k2, k3]))
      go_loopw [5, 6] (fun vv vk wr => ∃ m : Nat, m ≤ 4 ∧ vk = .int .i64 (3 - (m : Int)) ∧ vv = .int .u32 ((W / 256 ^ m : Nat) : Int) ∧ Mem w [] [(b3, .cells (bytQ N q m) 29 (0, 0)), (b2, .cells (bytR N 0) 29 (0, 0)), (b1, .cells #[.int .u32 (s.a : Int), .int .u32 (s.b : Int), .int .u32 (s.c : Int), .int .u32 (s.d : Int), .int .u32 (s.e : Int)] 52 (0, 0))] wr)
        (fun _ vk _ => (1 + intOf vk).toNat)
      case atStart => exact ⟨0, by omega, by simp, by simp, hm⟩
      case round =>
        clear hm
        obtain ⟨m, hm4, rfl, rfl, hm⟩ := hrel
        by_cases h4 : m < 4
        · obtain ⟨k, hk⟩ : ∃ k, 3 - m = k := ⟨_, rfl⟩
          have ek : (3 - (m : Int)) = (k : Int) := by omega
          have hd := HD.out m h4
          rw [show q + 3 - m = q + k from by omega] at hd
          obtain ⟨j, hj⟩ : ∃ j, q + k = j := ⟨_, rfl⟩
          rw [hj] at hd
          have hle := Nat.div_le_self W (256 ^ m)
          have HX := hid (show W / 256 ^ (m + 1) = W / 256 ^ m / 256 from by rw [Nat.pow_succ, Nat.div_div_eq_div_mul])
          obtain ⟨x, hx⟩ : ∃ x, W / 256 ^ m = x := ⟨_, rfl⟩
          rw [hx] at hd hle HX ⊢
          have e3 : (0 : Int) ≤ (k : Int) := by omega
          have w2' : IntKind.i64.wrap ((q : Int) + (k : Int)) = (j : Int) := by have := HQ.out; rw [wrap_i64 (by omega) (by omega)]; omega
          have w4' : IntKind.i64.wrap ((k : Int) - 1) = 3 - ((m + 1 : Nat) : Int) := by rw [wrap_i64 (by omega) (by omega)]; omega
          have j0 : (0 : Int) ≤ (j : Int) := by omega
          have j1 : (j : Int) < 20 := by have := HQ.out; omega
          obtain ⟨r, hr⟩ : ∃ r, x % 256 = r := ⟨_, rfl⟩
          obtain ⟨y, hy⟩ : ∃ y, x / 256 = y := ⟨_, rfl⟩
          rw [hr] at hd
          rw [hy] at HX
          have f1 : (x : Int) % 256 = (r : Int) := by omega
          have f2 : IntKind.u8.wrap (r : Int) = (r : Int) := wrap_u8 (by omega) (by omega)
          have f3 : (x : Int) / 256 = (y : Int) := by omega
          have f5 : IntKind.u32.wrap (r : Int) = (r : Int) := wrap_u32 (by omega) (by omega)
          have f6 : IntKind.u32.wrap (y : Int) = (y : Int) := wrap_u32 (by omega) (by omega)
          have HJ := hid (show j = q + 3 - m from by omega)
          have HR := hid hd
          rw [ek]
          clear hd hr hy hx hj hk hl
          go_wp2_with (with_reducible first | refine stAl ?_ | refine stBo ?_ | refine stLo ?_ | refine stSo ?_ | refine stBu ?_ | refine stBs ?_ | refine stMs ?_ | refine stAp ?_ | refine stCo ?_); refine Stop.go (wl_storeCell (i := 0) (by rfl) hm rfl rfl rfl rfl sizeByteI (by simp only [rowOf_size, bytR_size, bytQ_size, idC_size]; omega) ?_); clear hm; intro w5 hm; simp only [Act.put, k1, k2, k3]; (try simp only [rowOf_set, k1, k2, k3, Value.cells, Act.eval, k7, k8, k9, kA, Option.getD_some] at hm)
          rw [← HR.out, bytQ_set N q m j h4 HJ.out] at hm
          go_wp2_with ((first | refine wpList_skip (by rfl) ?_ | (refine wlL (hm := hm) (hu := by first | exact undState | exact undID) (hi := by (try simp only [rowOf_size, bytR_size, bytQ_size, idC_size]); first | exact sizeState | exact sizeID) (h := ?_); (try simp only [Act.put, k1, k2, k3]); (try simp only [← idV_eq])) | refine wlLC (hm := hm) (hv := by first | exact HCELL.out | rfl) (hu := by first | exact undU32 | exact undByteI) (h := ?_) | (refine wlS (hm := hm) (hv := (by first | rfl | exact idV_eq _ | exact labV_eq _ _ | exact rectV_eq _ _ _ _)) (hi := by (try simp only [rowOf_size, bytR_size, bytQ_size, idC_size]); first | exact sizeState | exact sizeID) (hs := by first | (simp only [rowOf_size, bytR_size, bytQ_size, idC_size]; done) | rfl) (h1 := by first | rfl | exact idC_one _ | exact rowOf_one _ _ (fun _ _ => rfl) | (simp only [List.size_toArray, List.length_cons, List.all_toArray', List.all_cons, List.all_nil, Value.oneCell', Bool.and_true, Bool.and_self]; done) | (simp [Value.oneCell']; done)) (h := ?_); clear hm; intro w1 hm; (try simp only [rowOf_set, k1, k2, k3, Value.cells, Act.eval, k7, k8, k9, kA, Option.getD_some] at hm)) | (refine wlSC (hm := hm) (hi := by first | exact sizeU32 | exact sizeByteI) (ho := by first | decide | (simp only [rowOf_size, bytR_size, bytQ_size, idC_size]; omega) | (simp; done)) (h := ?_); clear hm; intro w1 hm; (try simp only [rowOf_set, k1, k2, k3, Value.cells, Act.eval, k7, k8, k9, kA, Option.getD_some] at hm)) | (refine wlA (hz := by first | exact zeroState | exact zeroID) (hm := hm) (h := ?_); clear hm; intro b1 w1 hm; (try simp only [rowOf_set, k1, k2, k3, Value.cells, Act.eval, k7, k8, k9, kA, Option.getD_some] at hm)) | (refine wl_box (by rfl) rfl (by first | exact idV_cells _ | exact labV_cells _ _ | exact rectV_cells _ _ _ _ | rfl) hm ?_; clear hm; intro b1 w1 hm) | (with_reducible first | refine stBs ?_ | refine stMs ?_ | refine stAp ?_ | refine stCo ?_)); (try simp only [k4, k5, k6, Act.put, k1, k2, k3]))
          go_roundw
          case rel => exact ⟨m + 1, by omega, by first | rfl | go_num, by rw [HX.out], hm⟩
          case measure => (simp [intOf]; try omega)
        · obtain rfl : m = 4 := by omega
          rw [bytQ_all] at hm
          go_wp2_with ((first | refine wpList_skip (by rfl) ?_ | (refine wlL (hm := hm) (hu := by first | exact undState | exact undID) (hi := by (try simp only [rowOf_size, bytR_size, bytQ_size, idC_size]); first | exact sizeState | exact sizeID) (h := ?_); (try simp only [Act.put, k1, k2, k3]); (try simp only [← idV_eq])) | refine wlLC (hm := hm) (hv := by first | exact HCELL.out | rfl) (hu := by first | exact undU32 | exact undByteI) (h := ?_) | (refine wlS (hm := hm) (hv := (by first | rfl | exact idV_eq _ | exact labV_eq _ _ | exact rectV_eq _ _ _ _)) (hi := by (try simp only [rowOf_size, bytR_size, bytQ_size, idC_size]); first | exact sizeState | exact sizeID) (hs := by first | (simp only [rowOf_size, bytR_size, bytQ_size, idC_size]; done) | rfl) (h1 := by first | rfl | exact idC_one _ | exact rowOf_one _ _ (fun _ _ => rfl) | (simp only [List.size_toArray, List.length_cons, List.all_toArray', List.all_cons, List.all_nil, Value.oneCell', Bool.and_true, Bool.and_self]; done) | (simp [Value.oneCell']; done)) (h := ?_); clear hm; intro w1 hm; (try simp only [rowOf_set, k1, k2, k3, Value.cells, Act.eval, k7, k8, k9, kA, Option.getD_some] at hm)) | (refine wlSC (hm := hm) (hi := by first | exact sizeU32 | exact sizeByteI) (ho := by first | decide | (simp only [rowOf_size, bytR_size, bytQ_size, idC_size]; omega) | (simp; done)) (h := ?_); clear hm; intro w1 hm; (try simp only [rowOf_set, k1, k2, k3, Value.cells, Act.eval, k7, k8, k9, kA, Option.getD_some] at hm)) | (refine wlA (hz := by first | exact zeroState | exact zeroID) (hm := hm) (h := ?_); clear hm; intro b1 w1 hm; (try simp only [rowOf_set, k1, k2, k3, Value.cells, Act.eval, k7, k8, k9, kA, Option.getD_some] at hm)) | (refine wl_box (by rfl) rfl (by first | exact idV_cells _ | exact labV_cells _ _ | exact rectV_cells _ _ _ _ | rfl) hm ?_; clear hm; intro b1 w1 hm) | (with_reducible first | refine stBs ?_ | refine stMs ?_ | refine stAp ?_ | refine stCo ?_)); (try simp only [k4, k5, k6, Act.put, k1, k2, k3]))
          go_roundw
          case rel => exact ⟨i + 1, by omega, by go_num, by rw [show 4 * (i + 1) = q + 4 from by have := HQ.out; omega]; exact hm⟩
          case measure => (simp [intOf]; try omega)
    · obtain rfl : i = 5 := by omega
      rw [bytR_all] at hm
      go_wp2_with ((first | refine wpList_skip (by rfl) ?_ | (refine wlL (hm := hm) (hu := by first | exact undState | exact undID) (hi := by (try simp only [rowOf_size, bytR_size, bytQ_size, idC_size]); first | exact sizeState | exact sizeID) (h := ?_); (try simp only [Act.put, k1, k2, k3]); (try simp only [← idV_eq])) | refine wlLC (hm := hm) (hv := by first | exact HCELL.out | rfl) (hu := by first | exact undU32 | exact undByteI) (h := ?_) | (refine wlS (hm := hm) (hv := (by first | rfl | exact idV_eq _ | exact labV_eq _ _ | exact rectV_eq _ _ _ _)) (hi := by (try simp only [rowOf_size, bytR_size, bytQ_size, idC_size]); first | exact sizeState | exact sizeID) (hs := by first | (simp only [rowOf_size, bytR_size, bytQ_size, idC_size]; done) | rfl) (h1 := by first | rfl | exact idC_one _ | exact rowOf_one _ _ (fun _ _ => rfl) | (simp only [List.size_toArray, List.length_cons, List.all_toArray', List.all_cons, List.all_nil, Value.oneCell', Bool.and_true, Bool.and_self]; done) | (simp [Value.oneCell']; done)) (h := ?_); clear hm; intro w1 hm; (try simp only [rowOf_set, k1, k2, k3, Value.cells, Act.eval, k7, k8, k9, kA, Option.getD_some] at hm)) | (refine wlSC (hm := hm) (hi := by first | exact sizeU32 | exact sizeByteI) (ho := by first | decide | (simp only [rowOf_size, bytR_size, bytQ_size, idC_size]; omega) | (simp; done)) (h := ?_); clear hm; intro w1 hm; (try simp only [rowOf_set, k1, k2, k3, Value.cells, Act.eval, k7, k8, k9, kA, Option.getD_some] at hm)) | (refine wlA (hz := by first | exact zeroState | exact zeroID) (hm := hm) (h := ?_); clear hm; intro b1 w1 hm; (try simp only [rowOf_set, k1, k2, k3, Value.cells, Act.eval, k7, k8, k9, kA, Option.getD_some] at hm)) | (refine wl_box (by rfl) rfl (by first | exact idV_cells _ | exact labV_cells _ _ | exact rectV_cells _ _ _ _ | rfl) hm ?_; clear hm; intro b1 w1 hm) | (with_reducible first | refine stBs ?_ | refine stMs ?_ | refine stAp ?_ | refine stCo ?_)); (try simp only [k4, k5, k6, Act.put, k1, k2, k3]))
      refine bodyPost_ret (results_cell_row (h := rfl) _ _ _ _ _ _ _ rfl (hm.heap (i := 1) rfl) undID rfl (by first | exact sizeID | (simp only [rowOf_size, bytR_size, bytQ_size, idC_size]; exact sizeID))) rfl ?_
      exact ⟨by first | rfl | rw [idV_eq], hm.ext⟩
end Go.Proofs.Ytdlfgoiakkkilaa
