/-
  Texts of noughts and ones: n bits of a number, the highest one first.
-/
import Derived.Test.YtijkmbebfodhdaaMem2
import Derived.MapKept
import Derived.Laws.StructEq
namespace Go.Proofs.Ytijkmbebfodhdaa
set_option linter.unusedSimpArgs false
set_option linter.unusedVariables false
set_option maxRecDepth 20000

theorem bytesB_congr {n : Nat} {f g : Nat → Nat} (h : ∀ i, i < n → f i = g i) : bytesB n f = bytesB n g := by
  apply ByteArray.ext
  apply Array.toList_inj.1
  rw [bytesB_toList, bytesB_toList]
  exact List.map_congr_left fun i hi => by rw [h i (List.mem_range.1 hi)]
theorem bytesB_append (a b : Nat) (f g : Nat → Nat) : bytesB a f ++ bytesB b g = bytesB (a + b) fun i => if i < a then f i else g (i - a) := by
  apply ByteArray.ext
  apply Array.toList_inj.1
  rw [ByteArray.data_append, Array.toList_append, bytesB_toList, bytesB_toList, bytesB_toList]
  apply List.ext_getElem?
  intro i
  by_cases h : i < a
  · rw [List.getElem?_append_left (by simpa using h)]
    simp [List.getElem?_map, List.getElem?_range, h, show i < a + b from by omega]
  · rw [List.getElem?_append_right (by simpa using h)]
    by_cases h2 : i < a + b
    · simp [List.getElem?_map, List.getElem?_range, h, h2, show i - a < b from by omega]
    · rw [List.getElem?_eq_none (by simp; omega), List.getElem?_eq_none (by simp; omega)]
theorem bytesB_take (n m : Nat) (f : Nat → Nat) (h : m ≤ n) : (bytesB n f).extract 0 m = bytesB m f := by
  apply ByteArray.ext
  apply Array.toList_inj.1
  rw [ByteArray.data_extract, Array.toList_extract, bytesB_toList, bytesB_toList, List.extract_eq_take_drop]
  apply List.ext_getElem?
  intro i
  by_cases hi : i < m
  · simp [List.getElem?_take, hi, List.getElem?_map, List.getElem?_range, show i < n from by omega]
  · rw [List.getElem?_eq_none (by simp; omega), List.getElem?_eq_none (by simp; omega)]
theorem bytesB_drop (n m : Nat) (f : Nat → Nat) (h : m ≤ n) : (bytesB n f).extract m n = bytesB (n - m) fun i => f (m + i) := by
  apply ByteArray.ext
  apply Array.toList_inj.1
  rw [ByteArray.data_extract, Array.toList_extract, bytesB_toList, bytesB_toList, List.extract_eq_take_drop]
  apply List.ext_getElem?
  intro i
  by_cases hi : i < n - m
  · simp [List.getElem?_take, hi, List.getElem?_map, List.getElem?_range, show m + i < n from by omega]
  · rw [List.getElem?_eq_none (by simp; omega), List.getElem?_eq_none (by simp; omega)]
theorem bytesB_get {n : Nat} {f : Nat → Nat} {i : Nat} (h : i < n) : (bytesB n f).data.toList[i]? = some (UInt8.ofNat (f i)) := by
  rw [bytesB_toList]
  simp [List.getElem?_map, List.getElem?_range, h]
theorem bytesB_inj {n : Nat} {f g : Nat → Nat} (hf : ∀ i, i < n → f i < 256) (hg : ∀ i, i < n → g i < 256) (h : bytesB n f = bytesB n g) : ∀ i, i < n → f i = g i := fun i hi => by
  have h1 := bytesB_get (f := f) hi
  rw [h, bytesB_get hi, Option.some.injEq] at h1
  have h2 := congrArg UInt8.toNat h1
  simp only [UInt8.toNat_ofNat'] at h2
  have := hf i hi
  have := hg i hi
  omega
/-- Every row of bytes is told by a function of the place. -/
theorem bytes_of (s : ByteArray) : s = bytesB s.size fun i => ((s.data.toList[i]?).getD 0).toNat := by
  apply ByteArray.ext
  apply Array.toList_inj.1
  rw [bytesB_toList]
  apply List.ext_getElem?
  intro i
  have hs : s.data.toList.length = s.size := Array.length_toList
  by_cases h : i < s.size
  · have h' : i < s.data.toList.length := by omega
    rw [List.getElem?_map, List.getElem?_range h, Option.map_some, List.getElem?_eq_getElem h', Option.getD_some, UInt8.ofNat_toNat]
  · rw [List.getElem?_eq_none (by omega), List.getElem?_eq_none (by simp; omega)]

/-- n bits of v as a text, the highest one first. -/
@[irreducible] def txt (n v : Nat) : ByteArray := bytesB n fun i => 48 + v / 2 ^ (n - 1 - i) % 2
theorem txt_eq (n v : Nat) : txt n v = bytesB n fun i => 48 + v / 2 ^ (n - 1 - i) % 2 := by unfold txt; rfl
theorem txt_size (n v : Nat) : (txt n v).size = n := by rw [txt_eq, bytesB_size]
theorem txt_nil (v : Nat) : txt 0 v = { data := #[] } := by unfold txt bytesB; rfl
theorem chr_eq (x : Nat) (hx : x < 2) : (if x = 0 then ({ data := #[48] } : ByteArray) else { data := #[49] }) = bytesB 1 fun _ => 48 + x := by
  rcases (show x = 0 ∨ x = 1 by omega) with rfl | rfl <;> (unfold bytesB; rfl)
theorem div_pow_succ (v m : Nat) : v / 2 ^ (m + 1) = v / 2 / 2 ^ m := by rw [Nat.pow_succ, Nat.mul_comm, ← Nat.div_div_eq_div_mul]
theorem txt_snoc (n v x : Nat) (hx : x < 2) : txt n v ++ (bytesB 1 fun _ => 48 + x) = txt (n + 1) (2 * v + x) := by
  rw [txt_eq, txt_eq, bytesB_append]
  refine bytesB_congr fun i hi => ?_
  by_cases h : i < n
  · rw [if_pos h, show n + 1 - 1 - i = (n - 1 - i) + 1 from by omega, div_pow_succ, show (2 * v + x) / 2 = v from by omega]
  · rw [if_neg h, show n + 1 - 1 - i = 0 from by omega, Nat.pow_zero, Nat.div_one]
    omega
theorem txt_cons (n v x : Nat) (hx : x < 2) (hv : v < 2 ^ n) : (bytesB 1 fun _ => 48 + x) ++ txt n v = txt (n + 1) (2 ^ n * x + v) := by
  rw [txt_eq, txt_eq, bytesB_append, Nat.add_comm 1 n]
  refine bytesB_congr fun i hi => ?_
  have hp : 0 < 2 ^ n := Nat.pow_pos (by omega)
  by_cases h : i < 1
  · rw [if_pos h, show n + 1 - 1 - i = n from by omega, Nat.add_comm (2 ^ n * x), Nat.add_mul_div_left _ _ hp, Nat.div_eq_of_lt hv]
    omega
  · rw [if_neg h, show n + 1 - 1 - i = n - i from by omega, show n - 1 - (i - 1) = n - i from by omega]
    obtain ⟨t, ht⟩ : ∃ t, n = (n - i) + (t + 1) := ⟨i - 1, by omega⟩
    generalize n - i = m at *
    subst ht
    have hm : 0 < 2 ^ m := Nat.pow_pos (by omega)
    rw [Nat.pow_add, Nat.mul_assoc, Nat.add_comm (2 ^ m * _), Nat.add_mul_div_left _ _ hm, Nat.pow_succ, show 2 ^ t * 2 * x = 2 * (2 ^ t * x) from by rw [Nat.mul_comm (2 ^ t) 2, Nat.mul_assoc], Nat.add_mul_mod_self_left]
theorem txt_take (n m v : Nat) (h : m ≤ n) : (txt n v).extract 0 m = txt m (v / 2 ^ (n - m)) := by
  rw [txt_eq, txt_eq, bytesB_take _ _ _ h]
  refine bytesB_congr fun i hi => ?_
  rw [Nat.div_div_eq_div_mul, ← Nat.pow_add, show n - m + (m - 1 - i) = n - 1 - i from by omega]
theorem txt_inj (n u v : Nat) (hu : u < 2 ^ n) (hv : v < 2 ^ n) (h : txt n u = txt n v) : u = v := by
  rw [txt_eq, txt_eq] at h
  have hb := bytesB_inj (fun i _ => by omega) (fun i _ => by omega) h
  apply Nat.eq_of_testBit_eq
  intro j
  by_cases hj : j < n
  · have := hb (n - 1 - j) (by omega)
    rw [show n - 1 - (n - 1 - j) = j from by omega] at this
    rw [Nat.testBit_eq_decide_div_mod_eq, Nat.testBit_eq_decide_div_mod_eq, show u / 2 ^ j % 2 = v / 2 ^ j % 2 from by omega]
  · rw [Nat.testBit_lt_two_pow (Nat.lt_of_lt_of_le hu (Nat.pow_le_pow_right (by omega) (by omega))), Nat.testBit_lt_two_pow (Nat.lt_of_lt_of_le hv (Nat.pow_le_pow_right (by omega) (by omega)))]
theorem str_eq (a b : ByteArray) : (a.toList == b.toList) = decide (a = b) := by
  rw [← Go.beq_toListBytes, Bool.eq_iff_iff, Go.MapKept.bytes_beq, decide_eq_true_iff]
theorem txt_beq (n u v : Nat) (hu : u < 2 ^ n) (hv : v < 2 ^ n) : ((txt n u).toList == (txt n v).toList) = decide (u = v) := by
  rw [str_eq, Bool.eq_iff_iff, decide_eq_true_iff, decide_eq_true_iff]
  exact ⟨txt_inj n u v hu hv, fun h => by rw [h]⟩
/-- The byte at a place. -/
theorem txt_get (n v i : Nat) (h : i < n) : (txt n v).data.toList[i]? = some (UInt8.ofNat (48 + v / 2 ^ (n - 1 - i) % 2)) := by
  rw [txt_eq]; exact bytesB_get h
end Go.Proofs.Ytijkmbebfodhdaa
