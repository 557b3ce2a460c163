/-
  Contracts of the functions on places, continued: Parse.
-/
import Derived.Test.YthanfkopioehcaaIdG
import Derived.Test.YthanfkopioehcaaIdF
namespace Go.Proofs.Ythanfkopioehcaa
open Go.RowKit
set_option linter.unusedSimpArgs false
set_option linter.unusedVariables false
set_option maxHeartbeats 1000000
set_option maxRecDepth 20000
attribute [local irreducible] wpQuiet wpList wpAnyH Calls

/-- Byte i of a text. -/
@[irreducible] def bt (s : ByteArray) (i : Nat) : Nat := (s.data.toList.getD i 0).toNat
theorem bt_lt (s : ByteArray) (i : Nat) : bt s i < 256 := by unfold bt; exact UInt8.toNat_lt _

theorem bt_eq (s : ByteArray) (i : Nat) (h : i < s.size) : (s[i]'h).toNat = bt s i := by
  unfold bt
  congr 1
  simp [ByteArray.getElem_eq_getElem_data, List.getD_eq_getElem?_getD, Array.getElem?_eq_getElem (show i < s.data.size from h)]

def numOf' (f : Nat → Nat) : Nat → Nat
  | 0 => 0
  | k + 1 => 256 * numOf' f k + f k

theorem numOf'_dig (f : Nat → Nat) (hf : ∀ i, f i < 256) : ∀ k i, i < k → numOf' f k / 256 ^ (k - 1 - i) % 256 = f i
  | 0, i, h => by omega
  | k + 1, i, h => by
    have h0 := hf k
    rw [numOf']
    by_cases hi : i = k
    · subst hi
      rw [show i + 1 - 1 - i = 0 from by omega, Nat.pow_zero, Nat.div_one]
      omega
    · have ih := numOf'_dig f hf k i (by omega)
      rw [show k + 1 - 1 - i = (k - 1 - i) + 1 from by omega, Nat.pow_succ, Nat.mul_comm (256 ^ _) 256, ← Nat.div_div_eq_div_mul, show (256 * numOf' f k + f k) / 256 = numOf' f k from by omega]
      exact ih

/-- Byte i of what a text of forty digits writes. -/
def pairV (s : ByteArray) (i : Nat) : Nat := (16 * hexv (bt s (2 * i)) + hexv (bt s (2 * i + 1))) % 256
def parseV (s : ByteArray) : Nat := numOf' (pairV s) 20
theorem dig_parse (s : ByteArray) (i : Nat) (h : i < 20) : dig (parseV s) i = pairV s i := by
  have := numOf'_dig (pairV s) (fun i => Nat.mod_lt _ (by omega)) 20 i h
  unfold dig parseV
  rw [show 19 - i = 20 - 1 - i from by omega]
  exact this
/-- A text of forty digits. -/
@[irreducible] def goodB (s : ByteArray) : Bool := decide (s.size = 40) && (List.range 40).all fun j => decide (hexv (bt s j) < 16)
theorem goodB_iff (s : ByteArray) : goodB s = true ↔ s.size = 40 ∧ ∀ j, j < 40 → hexv (bt s j) < 16 := by
  unfold goodB
  simp only [Bool.and_eq_true, decide_eq_true_eq, List.all_eq_true, List.mem_range]

theorem zero_row : idV 0 = .agg (rowOf 20 fun _ => .int .u8 0) := by rw [idV_eq, idC]; congr 1; apply rowOf_congr; intro i _; simp [dig]
theorem zero_cells : idC 0 = rowOf 20 fun _ => .int .u8 0 := by rw [idC]; apply rowOf_congr; intro i _; simp [dig]

/-- The row of the first k bytes that a text writes. -/
def parsed (s : ByteArray) (k : Nat) : Array Value := rowOf 20 fun j => .int .u8 (if j < k then ((pairV s j : Nat) : Int) else 0)

theorem parse_size (s : ByteArray) (h : s.size ≠ 40) (hs : s.size < 2 ^ 62) (w : World) :
    Calls Try.prog 22 #[.string s] w fun e w' => e = .returned (.tuple #[idV 0, .int .i64 3]) ∧ Ext w w' := by
  have hne : ((s.size : Int) != 40) = true := by rw [bne_iff_ne]; omega
  go_enter Try.func22, Try.ntmps22
  have hm := Mem.refl w []
  go_wp2_with (first | ((with_reducible show wpList _ _ _ (⟨_, .alloc _, _, _, _, _⟩ :: _) _ _); refine Stop.mk ?_) | ((with_reducible show wpList _ _ _ (⟨_, .box _ _, _, _, _, _⟩ :: _) _ _); refine Stop.mk ?_) | ((with_reducible show wpList _ _ _ (⟨_, .load _ _, _, _, _, _⟩ :: _) _ _); refine Stop.mk ?_) | ((with_reducible show wpList _ _ _ (⟨_, .store _ _ _, _, _, _, _⟩ :: _) _ _); refine Stop.mk ?_) | ((with_reducible show wpList _ _ _ (⟨_, .build _ _, _, _, _, _⟩ :: _) _ _); refine Stop.mk ?_) | ((with_reducible show wpList _ _ _ (⟨_, .buildSlice _ _ _, _, _, _, _⟩ :: _) _ _); refine Stop.mk ?_) | ((with_reducible show wpList _ _ _ (⟨_, .makeSlice _ _ _, _, _, _, _⟩ :: _) _ _); refine Stop.mk ?_) | ((with_reducible show wpList _ _ _ (⟨_, .call ⟨.builtin .append, _, _⟩, _, _, _, _⟩ :: _) _ _); refine Stop.mk ?_) | ((with_reducible show wpList _ _ _ (⟨_, .call ⟨.builtin .copy, _, _⟩, _, _, _, _⟩ :: _) _ _); refine Stop.mk ?_)); refine Stop.go (wl_alloc (by rfl) zeroID rfl hm ?_); clear hm; intro b1 w1 hm; simp only [Act.put, List.setIfInBounds_toArray, List.set_cons_zero, List.set_cons_succ]; (try simp only [rowOf_set, List.set_cons_zero, List.set_cons_succ, Value.cells, Act.eval, Array.getD_eq_getD_getElem?, List.getElem?_toArray, List.getElem?_cons_zero, List.getElem?_cons_succ, Option.getD_some] at hm)
  go_wp2_with (first | ((with_reducible show wpList _ _ _ (⟨_, .alloc _, _, _, _, _⟩ :: _) _ _); refine Stop.mk ?_) | ((with_reducible show wpList _ _ _ (⟨_, .box _ _, _, _, _, _⟩ :: _) _ _); refine Stop.mk ?_) | ((with_reducible show wpList _ _ _ (⟨_, .load _ _, _, _, _, _⟩ :: _) _ _); refine Stop.mk ?_) | ((with_reducible show wpList _ _ _ (⟨_, .store _ _ _, _, _, _, _⟩ :: _) _ _); refine Stop.mk ?_) | ((with_reducible show wpList _ _ _ (⟨_, .build _ _, _, _, _, _⟩ :: _) _ _); refine Stop.mk ?_) | ((with_reducible show wpList _ _ _ (⟨_, .buildSlice _ _ _, _, _, _, _⟩ :: _) _ _); refine Stop.mk ?_) | ((with_reducible show wpList _ _ _ (⟨_, .makeSlice _ _ _, _, _, _, _⟩ :: _) _ _); refine Stop.mk ?_) | ((with_reducible show wpList _ _ _ (⟨_, .call ⟨.builtin .append, _, _⟩, _, _, _, _⟩ :: _) _ _); refine Stop.mk ?_) | ((with_reducible show wpList _ _ _ (⟨_, .call ⟨.builtin .copy, _, _⟩, _, _, _, _⟩ :: _) _ _); refine Stop.mk ?_)); refine Stop.go (wl_alloc (by rfl) zeroID rfl hm ?_); clear hm; intro b2 w2 hm; simp only [Act.put, List.setIfInBounds_toArray, List.set_cons_zero, List.set_cons_succ]; (try simp only [rowOf_set, List.set_cons_zero, List.set_cons_succ, Value.cells, Act.eval, Array.getD_eq_getD_getElem?, List.getElem?_toArray, List.getElem?_cons_zero, List.getElem?_cons_succ, Option.getD_some] at hm)
  go_wp2_with (first | ((with_reducible show wpList _ _ _ (⟨_, .alloc _, _, _, _, _⟩ :: _) _ _); refine Stop.mk ?_) | ((with_reducible show wpList _ _ _ (⟨_, .box _ _, _, _, _, _⟩ :: _) _ _); refine Stop.mk ?_) | ((with_reducible show wpList _ _ _ (⟨_, .load _ _, _, _, _, _⟩ :: _) _ _); refine Stop.mk ?_) | ((with_reducible show wpList _ _ _ (⟨_, .store _ _ _, _, _, _, _⟩ :: _) _ _); refine Stop.mk ?_) | ((with_reducible show wpList _ _ _ (⟨_, .build _ _, _, _, _, _⟩ :: _) _ _); refine Stop.mk ?_) | ((with_reducible show wpList _ _ _ (⟨_, .buildSlice _ _ _, _, _, _, _⟩ :: _) _ _); refine Stop.mk ?_) | ((with_reducible show wpList _ _ _ (⟨_, .makeSlice _ _ _, _, _, _, _⟩ :: _) _ _); refine Stop.mk ?_) | ((with_reducible show wpList _ _ _ (⟨_, .call ⟨.builtin .append, _, _⟩, _, _, _, _⟩ :: _) _ _); refine Stop.mk ?_) | ((with_reducible show wpList _ _ _ (⟨_, .call ⟨.builtin .copy, _, _⟩, _, _, _, _⟩ :: _) _ _); refine Stop.mk ?_)); refine Stop.go (wl_load (i := 0) (by rfl) hm rfl rfl undID rfl (by first | exact sizeID | (simp only [rowOf_size, idC_size]; exact sizeID)) ?_); simp only [Act.put, List.setIfInBounds_toArray, List.set_cons_zero, List.set_cons_succ]; (try simp only [← idV_eq])
  go_wp2_with (first | ((with_reducible show wpList _ _ _ (⟨_, .alloc _, _, _, _, _⟩ :: _) _ _); refine Stop.mk ?_) | ((with_reducible show wpList _ _ _ (⟨_, .box _ _, _, _, _, _⟩ :: _) _ _); refine Stop.mk ?_) | ((with_reducible show wpList _ _ _ (⟨_, .load _ _, _, _, _, _⟩ :: _) _ _); refine Stop.mk ?_) | ((with_reducible show wpList _ _ _ (⟨_, .store _ _ _, _, _, _, _⟩ :: _) _ _); refine Stop.mk ?_) | ((with_reducible show wpList _ _ _ (⟨_, .build _ _, _, _, _, _⟩ :: _) _ _); refine Stop.mk ?_) | ((with_reducible show wpList _ _ _ (⟨_, .buildSlice _ _ _, _, _, _, _⟩ :: _) _ _); refine Stop.mk ?_) | ((with_reducible show wpList _ _ _ (⟨_, .makeSlice _ _ _, _, _, _, _⟩ :: _) _ _); refine Stop.mk ?_) | ((with_reducible show wpList _ _ _ (⟨_, .call ⟨.builtin .append, _, _⟩, _, _, _, _⟩ :: _) _ _); refine Stop.mk ?_) | ((with_reducible show wpList _ _ _ (⟨_, .call ⟨.builtin .copy, _, _⟩, _, _, _, _⟩ :: _) _ _); refine Stop.mk ?_)); refine Stop.go (wl_store (i := 1) (by rfl) hm rfl rfl rfl (by first | rfl | exact idV_eq _) (by first | exact sizeID | (simp only [rowOf_size, idC_size]; exact sizeID)) (by simp only [rowOf_size, idC_size]) (by first | exact rowOf_one _ _ (fun _ _ => rfl) | exact idC_one _ | (exact rowOf_one _ _ (by intro i _; repeat (first | rfl | split)))) ?_); clear hm; intro w3 hm; simp only [Act.put, List.setIfInBounds_toArray, List.set_cons_zero, List.set_cons_succ]; simp only [rowOf_set, List.set_cons_zero, List.set_cons_succ, Value.cells, Act.eval, Array.getD_eq_getD_getElem?, List.getElem?_toArray, List.getElem?_cons_zero, List.getElem?_cons_succ, Option.getD_some] at hm
  go_wp2_with (first | ((with_reducible show wpList _ _ _ (⟨_, .alloc _, _, _, _, _⟩ :: _) _ _); refine Stop.mk ?_) | ((with_reducible show wpList _ _ _ (⟨_, .box _ _, _, _, _, _⟩ :: _) _ _); refine Stop.mk ?_) | ((with_reducible show wpList _ _ _ (⟨_, .load _ _, _, _, _, _⟩ :: _) _ _); refine Stop.mk ?_) | ((with_reducible show wpList _ _ _ (⟨_, .store _ _ _, _, _, _, _⟩ :: _) _ _); refine Stop.mk ?_) | ((with_reducible show wpList _ _ _ (⟨_, .build _ _, _, _, _, _⟩ :: _) _ _); refine Stop.mk ?_) | ((with_reducible show wpList _ _ _ (⟨_, .buildSlice _ _ _, _, _, _, _⟩ :: _) _ _); refine Stop.mk ?_) | ((with_reducible show wpList _ _ _ (⟨_, .makeSlice _ _ _, _, _, _, _⟩ :: _) _ _); refine Stop.mk ?_) | ((with_reducible show wpList _ _ _ (⟨_, .call ⟨.builtin .append, _, _⟩, _, _, _, _⟩ :: _) _ _); refine Stop.mk ?_) | ((with_reducible show wpList _ _ _ (⟨_, .call ⟨.builtin .copy, _, _⟩, _, _, _, _⟩ :: _) _ _); refine Stop.mk ?_)); refine bodyPost_ret (results_row_tmp (h := rfl) _ _ b1 _ _ _ _ rfl (hm.heap (i := 1) rfl) undID rfl (by first | exact sizeID | (simp only [rowOf_size, idC_size]; exact sizeID))) rfl ?_
  exact ⟨by rw [zero_row]; rfl, hm.ext⟩

/-- What Parse answers. -/
def Parsed (s : ByteArray) (e : Ending) : Prop := (goodB s = true → e = .returned (.tuple #[idV (parseV s), .int .i64 0])) ∧ (goodB s = false → e = .returned (.tuple #[idV 0, .int .i64 3]))

theorem parse_40 (s : ByteArray) (h : s.size = 40) (w : World) :
    Calls Try.prog 22 #[.string s] w fun e w' => Parsed s e ∧ Ext w w' := by
  have hne : ((s.size : Int) != 40) = false := by rw [h]; rfl
  have hsz : (40 : Int) ≤ (s.size : Int) := by omega
  have hsz' : (s.size : Int) ≤ 40 := by omega
  have HSZ := hid h
  clear h
  go_enter Try.func22, Try.ntmps22
  have hm := Mem.refl w []
  go_wp2_with (first | ((with_reducible show wpList _ _ _ (⟨_, .alloc _, _, _, _, _⟩ :: _) _ _); refine Stop.mk ?_) | ((with_reducible show wpList _ _ _ (⟨_, .box _ _, _, _, _, _⟩ :: _) _ _); refine Stop.mk ?_) | ((with_reducible show wpList _ _ _ (⟨_, .load _ _, _, _, _, _⟩ :: _) _ _); refine Stop.mk ?_) | ((with_reducible show wpList _ _ _ (⟨_, .store _ _ _, _, _, _, _⟩ :: _) _ _); refine Stop.mk ?_) | ((with_reducible show wpList _ _ _ (⟨_, .build _ _, _, _, _, _⟩ :: _) _ _); refine Stop.mk ?_) | ((with_reducible show wpList _ _ _ (⟨_, .buildSlice _ _ _, _, _, _, _⟩ :: _) _ _); refine Stop.mk ?_) | ((with_reducible show wpList _ _ _ (⟨_, .makeSlice _ _ _, _, _, _, _⟩ :: _) _ _); refine Stop.mk ?_) | ((with_reducible show wpList _ _ _ (⟨_, .call ⟨.builtin .append, _, _⟩, _, _, _, _⟩ :: _) _ _); refine Stop.mk ?_) | ((with_reducible show wpList _ _ _ (⟨_, .call ⟨.builtin .copy, _, _⟩, _, _, _, _⟩ :: _) _ _); refine Stop.mk ?_)); refine Stop.go (wl_alloc (by rfl) zeroID rfl hm ?_); clear hm; intro b1 w1 hm; simp only [Act.put, List.setIfInBounds_toArray, List.set_cons_zero, List.set_cons_succ]; (try simp only [rowOf_set, List.set_cons_zero, List.set_cons_succ, Value.cells, Act.eval, Array.getD_eq_getD_getElem?, List.getElem?_toArray, List.getElem?_cons_zero, List.getElem?_cons_succ, Option.getD_some] at hm)
  go_wp2_with (first | ((with_reducible show wpList _ _ _ (⟨_, .alloc _, _, _, _, _⟩ :: _) _ _); refine Stop.mk ?_) | ((with_reducible show wpList _ _ _ (⟨_, .box _ _, _, _, _, _⟩ :: _) _ _); refine Stop.mk ?_) | ((with_reducible show wpList _ _ _ (⟨_, .load _ _, _, _, _, _⟩ :: _) _ _); refine Stop.mk ?_) | ((with_reducible show wpList _ _ _ (⟨_, .store _ _ _, _, _, _, _⟩ :: _) _ _); refine Stop.mk ?_) | ((with_reducible show wpList _ _ _ (⟨_, .build _ _, _, _, _, _⟩ :: _) _ _); refine Stop.mk ?_) | ((with_reducible show wpList _ _ _ (⟨_, .buildSlice _ _ _, _, _, _, _⟩ :: _) _ _); refine Stop.mk ?_) | ((with_reducible show wpList _ _ _ (⟨_, .makeSlice _ _ _, _, _, _, _⟩ :: _) _ _); refine Stop.mk ?_) | ((with_reducible show wpList _ _ _ (⟨_, .call ⟨.builtin .append, _, _⟩, _, _, _, _⟩ :: _) _ _); refine Stop.mk ?_) | ((with_reducible show wpList _ _ _ (⟨_, .call ⟨.builtin .copy, _, _⟩, _, _, _, _⟩ :: _) _ _); refine Stop.mk ?_)); refine Stop.go (wl_alloc (by rfl) zeroID rfl hm ?_); clear hm; intro b2 w2 hm; simp only [Act.put, List.setIfInBounds_toArray, List.set_cons_zero, List.set_cons_succ]; (try simp only [rowOf_set, List.set_cons_zero, List.set_cons_succ, Value.cells, Act.eval, Array.getD_eq_getD_getElem?, List.getElem?_toArray, List.getElem?_cons_zero, List.getElem?_cons_succ, Option.getD_some] at hm)
  go_wp2_with (first | ((with_reducible show wpList _ _ _ (⟨_, .alloc _, _, _, _, _⟩ :: _) _ _); refine Stop.mk ?_) | ((with_reducible show wpList _ _ _ (⟨_, .box _ _, _, _, _, _⟩ :: _) _ _); refine Stop.mk ?_) | ((with_reducible show wpList _ _ _ (⟨_, .load _ _, _, _, _, _⟩ :: _) _ _); refine Stop.mk ?_) | ((with_reducible show wpList _ _ _ (⟨_, .store _ _ _, _, _, _, _⟩ :: _) _ _); refine Stop.mk ?_) | ((with_reducible show wpList _ _ _ (⟨_, .build _ _, _, _, _, _⟩ :: _) _ _); refine Stop.mk ?_) | ((with_reducible show wpList _ _ _ (⟨_, .buildSlice _ _ _, _, _, _, _⟩ :: _) _ _); refine Stop.mk ?_) | ((with_reducible show wpList _ _ _ (⟨_, .makeSlice _ _ _, _, _, _, _⟩ :: _) _ _); refine Stop.mk ?_) | ((with_reducible show wpList _ _ _ (⟨_, .call ⟨.builtin .append, _, _⟩, _, _, _, _⟩ :: _) _ _); refine Stop.mk ?_) | ((with_reducible show wpList _ _ _ (⟨_, .call ⟨.builtin .copy, _, _⟩, _, _, _, _⟩ :: _) _ _); refine Stop.mk ?_))
  go_loopw [14] (fun i wr => ∃ k : Nat, k ≤ 20 ∧ i = .int .i64 (k : Int) ∧ Hid (∀ j, j < 2 * k → hexv (bt s j) < 16) ∧ Mem w [] [(b2, .cells (parsed s k) 23), (b1, .cells (rowOf 20 fun _ => .int .u8 0) 23)] wr)
    (fun i _ => (20 - intOf i).toNat)
  case atStart =>
    refine ⟨0, by omega, rfl, fun j hj => by omega, ?_⟩
    unfold parsed
    simp only [Nat.not_lt_zero, if_false]
    exact hm
  case round =>
    clear hm
    obtain ⟨k, hk, rfl, HG, hm⟩ := hrel
    by_cases h0 : k < 20
    · have hk20 : (k : Int) < 20 := by omega
      have hk0 : (0 : Int) ≤ (k : Int) := by omega
      have b1' := bt_lt s (2 * k)
      have b2' := bt_lt s (2 * k + 1)
      have v1 := hexv_le (bt s (2 * k))
      have v2 := hexv_le (bt s (2 * k + 1))
      have n1 : (2 * (k : Int)).toNat = 2 * k := by omega
      have n2 : (2 * (k : Int) + 1).toNat = 2 * k + 1 := by omega
      have t1 : (2 * (k : Int)) < (s.size : Int) := by omega
      have t2 : (2 * (k : Int) + 1) < (s.size : Int) := by omega
      have e1 := bt_eq s (2 * k) (by have := HSZ.out; omega)
      have e2 := bt_eq s (2 * k + 1) (by have := HSZ.out; omega)
      have HB1 := hid b1'
      have HB2 := hid b2'
      clear b1' b2'
      obtain ⟨x, hx⟩ : ∃ x, hexv (bt s (2 * k)) = x := ⟨_, rfl⟩
      obtain ⟨y, hy⟩ : ∃ y, hexv (bt s (2 * k + 1)) = y := ⟨_, rfl⟩
      rw [hx] at v1
      rw [hy] at v2
      have HX := hid hx
      have HY := hid hy
      clear hx hy
      by_cases hx16 : x < 16
      · by_cases hy16 : y < 16
        · go_wp2_with (first | ((with_reducible show wpList _ _ _ (⟨_, .alloc _, _, _, _, _⟩ :: _) _ _); refine Stop.mk ?_) | ((with_reducible show wpList _ _ _ (⟨_, .box _ _, _, _, _, _⟩ :: _) _ _); refine Stop.mk ?_) | ((with_reducible show wpList _ _ _ (⟨_, .load _ _, _, _, _, _⟩ :: _) _ _); refine Stop.mk ?_) | ((with_reducible show wpList _ _ _ (⟨_, .store _ _ _, _, _, _, _⟩ :: _) _ _); refine Stop.mk ?_) | ((with_reducible show wpList _ _ _ (⟨_, .build _ _, _, _, _, _⟩ :: _) _ _); refine Stop.mk ?_) | ((with_reducible show wpList _ _ _ (⟨_, .buildSlice _ _ _, _, _, _, _⟩ :: _) _ _); refine Stop.mk ?_) | ((with_reducible show wpList _ _ _ (⟨_, .makeSlice _ _ _, _, _, _, _⟩ :: _) _ _); refine Stop.mk ?_) | ((with_reducible show wpList _ _ _ (⟨_, .call ⟨.builtin .append, _, _⟩, _, _, _, _⟩ :: _) _ _); refine Stop.mk ?_) | ((with_reducible show wpList _ _ _ (⟨_, .call ⟨.builtin .copy, _, _⟩, _, _, _, _⟩ :: _) _ _); refine Stop.mk ?_)); refine (digit_good _ _ HX.out hx16 _).mono ?_; rintro e w3 ⟨rfl, hx⟩; replace hm := hm.call hx; clear hx
          go_wp2_with (first | ((with_reducible show wpList _ _ _ (⟨_, .alloc _, _, _, _, _⟩ :: _) _ _); refine Stop.mk ?_) | ((with_reducible show wpList _ _ _ (⟨_, .box _ _, _, _, _, _⟩ :: _) _ _); refine Stop.mk ?_) | ((with_reducible show wpList _ _ _ (⟨_, .load _ _, _, _, _, _⟩ :: _) _ _); refine Stop.mk ?_) | ((with_reducible show wpList _ _ _ (⟨_, .store _ _ _, _, _, _, _⟩ :: _) _ _); refine Stop.mk ?_) | ((with_reducible show wpList _ _ _ (⟨_, .build _ _, _, _, _, _⟩ :: _) _ _); refine Stop.mk ?_) | ((with_reducible show wpList _ _ _ (⟨_, .buildSlice _ _ _, _, _, _, _⟩ :: _) _ _); refine Stop.mk ?_) | ((with_reducible show wpList _ _ _ (⟨_, .makeSlice _ _ _, _, _, _, _⟩ :: _) _ _); refine Stop.mk ?_) | ((with_reducible show wpList _ _ _ (⟨_, .call ⟨.builtin .append, _, _⟩, _, _, _, _⟩ :: _) _ _); refine Stop.mk ?_) | ((with_reducible show wpList _ _ _ (⟨_, .call ⟨.builtin .copy, _, _⟩, _, _, _, _⟩ :: _) _ _); refine Stop.mk ?_)); refine (digit_good _ _ HY.out hy16 _).mono ?_; rintro e w4 ⟨rfl, hx⟩; replace hm := hm.call hx; clear hx
          have r1 : IntKind.u8.wrap (16 * (x : Int)) = 16 * (x : Int) := wrap_u8 (by omega) (by omega)
          have r2 : IntKind.u8.wrap (16 * (x : Int) + (y : Int)) = 16 * (x : Int) + (y : Int) := wrap_u8 (by omega) (by omega)
          go_wp2_with (first | ((with_reducible show wpList _ _ _ (⟨_, .alloc _, _, _, _, _⟩ :: _) _ _); refine Stop.mk ?_) | ((with_reducible show wpList _ _ _ (⟨_, .box _ _, _, _, _, _⟩ :: _) _ _); refine Stop.mk ?_) | ((with_reducible show wpList _ _ _ (⟨_, .load _ _, _, _, _, _⟩ :: _) _ _); refine Stop.mk ?_) | ((with_reducible show wpList _ _ _ (⟨_, .store _ _ _, _, _, _, _⟩ :: _) _ _); refine Stop.mk ?_) | ((with_reducible show wpList _ _ _ (⟨_, .build _ _, _, _, _, _⟩ :: _) _ _); refine Stop.mk ?_) | ((with_reducible show wpList _ _ _ (⟨_, .buildSlice _ _ _, _, _, _, _⟩ :: _) _ _); refine Stop.mk ?_) | ((with_reducible show wpList _ _ _ (⟨_, .makeSlice _ _ _, _, _, _, _⟩ :: _) _ _); refine Stop.mk ?_) | ((with_reducible show wpList _ _ _ (⟨_, .call ⟨.builtin .append, _, _⟩, _, _, _, _⟩ :: _) _ _); refine Stop.mk ?_) | ((with_reducible show wpList _ _ _ (⟨_, .call ⟨.builtin .copy, _, _⟩, _, _, _, _⟩ :: _) _ _); refine Stop.mk ?_))
          refine Stop.go (wl_storeCell (i := 0) (by rfl) hm rfl rfl rfl rfl sizeByte (by unfold parsed; simp only [rowOf_size]; omega) ?_); clear hm; intro w5 hm; simp only [Act.put, List.setIfInBounds_toArray, List.set_cons_zero, List.set_cons_succ]; (try simp only [rowOf_set, List.set_cons_zero, List.set_cons_succ, Value.cells, Act.eval, Array.getD_eq_getD_getElem?, List.getElem?_toArray, List.getElem?_cons_zero, List.getElem?_cons_succ, Option.getD_some] at hm)
          have HN := hid (show ∀ j, j < 2 * (k + 1) → hexv (bt s j) < 16 from fun j hj => by
            by_cases h1 : j < 2 * k
            · exact HG.out j h1
            · by_cases h2 : j = 2 * k
              · rw [h2, HX.out]; exact hx16
              · rw [show j = 2 * k + 1 from by omega, HY.out]; exact hy16)
          have e : (parsed s k).setIfInBounds k (.int .u8 (16 * (x : Int) + (y : Int))) = parsed s (k + 1) := by
            unfold parsed
            rw [rowOf_set]
            apply rowOf_congr
            intro j hj
            by_cases hjk : j = k
            · subst hjk
              rw [if_pos rfl, if_pos (by omega), pairV, HX.out, HY.out]
              congr 1
              omega
            · rw [if_neg hjk]
              by_cases hlt : j < k
              · rw [if_pos hlt, if_pos (by omega)]
              · rw [if_neg hlt, if_neg (by omega)]
          rw [e] at hm
          clear e
          go_wp2_with (first | ((with_reducible show wpList _ _ _ (⟨_, .alloc _, _, _, _, _⟩ :: _) _ _); refine Stop.mk ?_) | ((with_reducible show wpList _ _ _ (⟨_, .box _ _, _, _, _, _⟩ :: _) _ _); refine Stop.mk ?_) | ((with_reducible show wpList _ _ _ (⟨_, .load _ _, _, _, _, _⟩ :: _) _ _); refine Stop.mk ?_) | ((with_reducible show wpList _ _ _ (⟨_, .store _ _ _, _, _, _, _⟩ :: _) _ _); refine Stop.mk ?_) | ((with_reducible show wpList _ _ _ (⟨_, .build _ _, _, _, _, _⟩ :: _) _ _); refine Stop.mk ?_) | ((with_reducible show wpList _ _ _ (⟨_, .buildSlice _ _ _, _, _, _, _⟩ :: _) _ _); refine Stop.mk ?_) | ((with_reducible show wpList _ _ _ (⟨_, .makeSlice _ _ _, _, _, _, _⟩ :: _) _ _); refine Stop.mk ?_) | ((with_reducible show wpList _ _ _ (⟨_, .call ⟨.builtin .append, _, _⟩, _, _, _, _⟩ :: _) _ _); refine Stop.mk ?_) | ((with_reducible show wpList _ _ _ (⟨_, .call ⟨.builtin .copy, _, _⟩, _, _, _, _⟩ :: _) _ _); refine Stop.mk ?_))
          go_roundw
          case rel => exact ⟨k + 1, by omega, by go_num, HN, hm⟩
          case measure => simp [intOf]; omega
        · have HF := hid (show goodB s = false from by
            cases hg : goodB s with
            | false => rfl
            | true => have := ((goodB_iff s).1 hg).2 (2 * k + 1) (by omega); rw [HY.out] at this; omega)
          go_wp2_with (first | ((with_reducible show wpList _ _ _ (⟨_, .alloc _, _, _, _, _⟩ :: _) _ _); refine Stop.mk ?_) | ((with_reducible show wpList _ _ _ (⟨_, .box _ _, _, _, _, _⟩ :: _) _ _); refine Stop.mk ?_) | ((with_reducible show wpList _ _ _ (⟨_, .load _ _, _, _, _, _⟩ :: _) _ _); refine Stop.mk ?_) | ((with_reducible show wpList _ _ _ (⟨_, .store _ _ _, _, _, _, _⟩ :: _) _ _); refine Stop.mk ?_) | ((with_reducible show wpList _ _ _ (⟨_, .build _ _, _, _, _, _⟩ :: _) _ _); refine Stop.mk ?_) | ((with_reducible show wpList _ _ _ (⟨_, .buildSlice _ _ _, _, _, _, _⟩ :: _) _ _); refine Stop.mk ?_) | ((with_reducible show wpList _ _ _ (⟨_, .makeSlice _ _ _, _, _, _, _⟩ :: _) _ _); refine Stop.mk ?_) | ((with_reducible show wpList _ _ _ (⟨_, .call ⟨.builtin .append, _, _⟩, _, _, _, _⟩ :: _) _ _); refine Stop.mk ?_) | ((with_reducible show wpList _ _ _ (⟨_, .call ⟨.builtin .copy, _, _⟩, _, _, _, _⟩ :: _) _ _); refine Stop.mk ?_)); refine (digit_good _ _ HX.out hx16 _).mono ?_; rintro e w3 ⟨rfl, hx⟩; replace hm := hm.call hx; clear hx
          go_wp2_with (first | ((with_reducible show wpList _ _ _ (⟨_, .alloc _, _, _, _, _⟩ :: _) _ _); refine Stop.mk ?_) | ((with_reducible show wpList _ _ _ (⟨_, .box _ _, _, _, _, _⟩ :: _) _ _); refine Stop.mk ?_) | ((with_reducible show wpList _ _ _ (⟨_, .load _ _, _, _, _, _⟩ :: _) _ _); refine Stop.mk ?_) | ((with_reducible show wpList _ _ _ (⟨_, .store _ _ _, _, _, _, _⟩ :: _) _ _); refine Stop.mk ?_) | ((with_reducible show wpList _ _ _ (⟨_, .build _ _, _, _, _, _⟩ :: _) _ _); refine Stop.mk ?_) | ((with_reducible show wpList _ _ _ (⟨_, .buildSlice _ _ _, _, _, _, _⟩ :: _) _ _); refine Stop.mk ?_) | ((with_reducible show wpList _ _ _ (⟨_, .makeSlice _ _ _, _, _, _, _⟩ :: _) _ _); refine Stop.mk ?_) | ((with_reducible show wpList _ _ _ (⟨_, .call ⟨.builtin .append, _, _⟩, _, _, _, _⟩ :: _) _ _); refine Stop.mk ?_) | ((with_reducible show wpList _ _ _ (⟨_, .call ⟨.builtin .copy, _, _⟩, _, _, _, _⟩ :: _) _ _); refine Stop.mk ?_)); refine (digit_bad _ (by rw [HY.out]; omega) HB2.out _).mono ?_; rintro e w4 ⟨rfl, hx⟩; replace hm := hm.call hx; clear hx
          go_wp2_with (first | ((with_reducible show wpList _ _ _ (⟨_, .alloc _, _, _, _, _⟩ :: _) _ _); refine Stop.mk ?_) | ((with_reducible show wpList _ _ _ (⟨_, .box _ _, _, _, _, _⟩ :: _) _ _); refine Stop.mk ?_) | ((with_reducible show wpList _ _ _ (⟨_, .load _ _, _, _, _, _⟩ :: _) _ _); refine Stop.mk ?_) | ((with_reducible show wpList _ _ _ (⟨_, .store _ _ _, _, _, _, _⟩ :: _) _ _); refine Stop.mk ?_) | ((with_reducible show wpList _ _ _ (⟨_, .build _ _, _, _, _, _⟩ :: _) _ _); refine Stop.mk ?_) | ((with_reducible show wpList _ _ _ (⟨_, .buildSlice _ _ _, _, _, _, _⟩ :: _) _ _); refine Stop.mk ?_) | ((with_reducible show wpList _ _ _ (⟨_, .makeSlice _ _ _, _, _, _, _⟩ :: _) _ _); refine Stop.mk ?_) | ((with_reducible show wpList _ _ _ (⟨_, .call ⟨.builtin .append, _, _⟩, _, _, _, _⟩ :: _) _ _); refine Stop.mk ?_) | ((with_reducible show wpList _ _ _ (⟨_, .call ⟨.builtin .copy, _, _⟩, _, _, _, _⟩ :: _) _ _); refine Stop.mk ?_)); refine Stop.go (wl_build (by rfl) (built_zero) (by simp [Act.eval]) ?_); simp only [Act.put, List.setIfInBounds_toArray, List.set_cons_zero, List.set_cons_succ]
          go_wp2_with (first | ((with_reducible show wpList _ _ _ (⟨_, .alloc _, _, _, _, _⟩ :: _) _ _); refine Stop.mk ?_) | ((with_reducible show wpList _ _ _ (⟨_, .box _ _, _, _, _, _⟩ :: _) _ _); refine Stop.mk ?_) | ((with_reducible show wpList _ _ _ (⟨_, .load _ _, _, _, _, _⟩ :: _) _ _); refine Stop.mk ?_) | ((with_reducible show wpList _ _ _ (⟨_, .store _ _ _, _, _, _, _⟩ :: _) _ _); refine Stop.mk ?_) | ((with_reducible show wpList _ _ _ (⟨_, .build _ _, _, _, _, _⟩ :: _) _ _); refine Stop.mk ?_) | ((with_reducible show wpList _ _ _ (⟨_, .buildSlice _ _ _, _, _, _, _⟩ :: _) _ _); refine Stop.mk ?_) | ((with_reducible show wpList _ _ _ (⟨_, .makeSlice _ _ _, _, _, _, _⟩ :: _) _ _); refine Stop.mk ?_) | ((with_reducible show wpList _ _ _ (⟨_, .call ⟨.builtin .append, _, _⟩, _, _, _, _⟩ :: _) _ _); refine Stop.mk ?_) | ((with_reducible show wpList _ _ _ (⟨_, .call ⟨.builtin .copy, _, _⟩, _, _, _, _⟩ :: _) _ _); refine Stop.mk ?_)); refine Stop.go (wl_store (i := 1) (by rfl) hm rfl rfl rfl (by first | rfl | exact idV_eq _) (by first | exact sizeID | (simp only [rowOf_size, idC_size]; exact sizeID)) (by simp only [rowOf_size, idC_size]) (by first | exact rowOf_one _ _ (fun _ _ => rfl) | exact idC_one _ | (exact rowOf_one _ _ (by intro i _; repeat (first | rfl | split)))) ?_); clear hm; intro w5 hm; simp only [Act.put, List.setIfInBounds_toArray, List.set_cons_zero, List.set_cons_succ]; simp only [rowOf_set, List.set_cons_zero, List.set_cons_succ, Value.cells, Act.eval, Array.getD_eq_getD_getElem?, List.getElem?_toArray, List.getElem?_cons_zero, List.getElem?_cons_succ, Option.getD_some] at hm
          go_wp2_with (first | ((with_reducible show wpList _ _ _ (⟨_, .alloc _, _, _, _, _⟩ :: _) _ _); refine Stop.mk ?_) | ((with_reducible show wpList _ _ _ (⟨_, .box _ _, _, _, _, _⟩ :: _) _ _); refine Stop.mk ?_) | ((with_reducible show wpList _ _ _ (⟨_, .load _ _, _, _, _, _⟩ :: _) _ _); refine Stop.mk ?_) | ((with_reducible show wpList _ _ _ (⟨_, .store _ _ _, _, _, _, _⟩ :: _) _ _); refine Stop.mk ?_) | ((with_reducible show wpList _ _ _ (⟨_, .build _ _, _, _, _, _⟩ :: _) _ _); refine Stop.mk ?_) | ((with_reducible show wpList _ _ _ (⟨_, .buildSlice _ _ _, _, _, _, _⟩ :: _) _ _); refine Stop.mk ?_) | ((with_reducible show wpList _ _ _ (⟨_, .makeSlice _ _ _, _, _, _, _⟩ :: _) _ _); refine Stop.mk ?_) | ((with_reducible show wpList _ _ _ (⟨_, .call ⟨.builtin .append, _, _⟩, _, _, _, _⟩ :: _) _ _); refine Stop.mk ?_) | ((with_reducible show wpList _ _ _ (⟨_, .call ⟨.builtin .copy, _, _⟩, _, _, _, _⟩ :: _) _ _); refine Stop.mk ?_)); refine bodyPost_ret (results_row_tmp (h := rfl) _ _ b1 _ _ _ _ rfl (hm.heap (i := 1) rfl) undID rfl (by first | exact sizeID | (simp only [rowOf_size, idC_size]; exact sizeID))) rfl ?_
          exact ⟨⟨(fun hg => by rw [HF.out] at hg; cases hg), (fun _ => by rw [idV_eq]; rfl)⟩, hm.ext⟩
      · have HF := hid (show goodB s = false from by
          cases hg : goodB s with
          | false => rfl
          | true => have := ((goodB_iff s).1 hg).2 (2 * k) (by omega); rw [HX.out] at this; omega)
        go_wp2_with (first | ((with_reducible show wpList _ _ _ (⟨_, .alloc _, _, _, _, _⟩ :: _) _ _); refine Stop.mk ?_) | ((with_reducible show wpList _ _ _ (⟨_, .box _ _, _, _, _, _⟩ :: _) _ _); refine Stop.mk ?_) | ((with_reducible show wpList _ _ _ (⟨_, .load _ _, _, _, _, _⟩ :: _) _ _); refine Stop.mk ?_) | ((with_reducible show wpList _ _ _ (⟨_, .store _ _ _, _, _, _, _⟩ :: _) _ _); refine Stop.mk ?_) | ((with_reducible show wpList _ _ _ (⟨_, .build _ _, _, _, _, _⟩ :: _) _ _); refine Stop.mk ?_) | ((with_reducible show wpList _ _ _ (⟨_, .buildSlice _ _ _, _, _, _, _⟩ :: _) _ _); refine Stop.mk ?_) | ((with_reducible show wpList _ _ _ (⟨_, .makeSlice _ _ _, _, _, _, _⟩ :: _) _ _); refine Stop.mk ?_) | ((with_reducible show wpList _ _ _ (⟨_, .call ⟨.builtin .append, _, _⟩, _, _, _, _⟩ :: _) _ _); refine Stop.mk ?_) | ((with_reducible show wpList _ _ _ (⟨_, .call ⟨.builtin .copy, _, _⟩, _, _, _, _⟩ :: _) _ _); refine Stop.mk ?_)); refine (digit_bad _ (by rw [HX.out]; omega) HB1.out _).mono ?_; rintro e w3 ⟨rfl, hx⟩; replace hm := hm.call hx; clear hx
        by_cases hy16 : y < 16
        · go_wp2_with (first | ((with_reducible show wpList _ _ _ (⟨_, .alloc _, _, _, _, _⟩ :: _) _ _); refine Stop.mk ?_) | ((with_reducible show wpList _ _ _ (⟨_, .box _ _, _, _, _, _⟩ :: _) _ _); refine Stop.mk ?_) | ((with_reducible show wpList _ _ _ (⟨_, .load _ _, _, _, _, _⟩ :: _) _ _); refine Stop.mk ?_) | ((with_reducible show wpList _ _ _ (⟨_, .store _ _ _, _, _, _, _⟩ :: _) _ _); refine Stop.mk ?_) | ((with_reducible show wpList _ _ _ (⟨_, .build _ _, _, _, _, _⟩ :: _) _ _); refine Stop.mk ?_) | ((with_reducible show wpList _ _ _ (⟨_, .buildSlice _ _ _, _, _, _, _⟩ :: _) _ _); refine Stop.mk ?_) | ((with_reducible show wpList _ _ _ (⟨_, .makeSlice _ _ _, _, _, _, _⟩ :: _) _ _); refine Stop.mk ?_) | ((with_reducible show wpList _ _ _ (⟨_, .call ⟨.builtin .append, _, _⟩, _, _, _, _⟩ :: _) _ _); refine Stop.mk ?_) | ((with_reducible show wpList _ _ _ (⟨_, .call ⟨.builtin .copy, _, _⟩, _, _, _, _⟩ :: _) _ _); refine Stop.mk ?_)); refine (digit_good _ _ HY.out hy16 _).mono ?_; rintro e w4 ⟨rfl, hx⟩; replace hm := hm.call hx; clear hx
          go_wp2_with (first | ((with_reducible show wpList _ _ _ (⟨_, .alloc _, _, _, _, _⟩ :: _) _ _); refine Stop.mk ?_) | ((with_reducible show wpList _ _ _ (⟨_, .box _ _, _, _, _, _⟩ :: _) _ _); refine Stop.mk ?_) | ((with_reducible show wpList _ _ _ (⟨_, .load _ _, _, _, _, _⟩ :: _) _ _); refine Stop.mk ?_) | ((with_reducible show wpList _ _ _ (⟨_, .store _ _ _, _, _, _, _⟩ :: _) _ _); refine Stop.mk ?_) | ((with_reducible show wpList _ _ _ (⟨_, .build _ _, _, _, _, _⟩ :: _) _ _); refine Stop.mk ?_) | ((with_reducible show wpList _ _ _ (⟨_, .buildSlice _ _ _, _, _, _, _⟩ :: _) _ _); refine Stop.mk ?_) | ((with_reducible show wpList _ _ _ (⟨_, .makeSlice _ _ _, _, _, _, _⟩ :: _) _ _); refine Stop.mk ?_) | ((with_reducible show wpList _ _ _ (⟨_, .call ⟨.builtin .append, _, _⟩, _, _, _, _⟩ :: _) _ _); refine Stop.mk ?_) | ((with_reducible show wpList _ _ _ (⟨_, .call ⟨.builtin .copy, _, _⟩, _, _, _, _⟩ :: _) _ _); refine Stop.mk ?_)); refine Stop.go (wl_build (by rfl) (built_zero) (by simp [Act.eval]) ?_); simp only [Act.put, List.setIfInBounds_toArray, List.set_cons_zero, List.set_cons_succ]
          go_wp2_with (first | ((with_reducible show wpList _ _ _ (⟨_, .alloc _, _, _, _, _⟩ :: _) _ _); refine Stop.mk ?_) | ((with_reducible show wpList _ _ _ (⟨_, .box _ _, _, _, _, _⟩ :: _) _ _); refine Stop.mk ?_) | ((with_reducible show wpList _ _ _ (⟨_, .load _ _, _, _, _, _⟩ :: _) _ _); refine Stop.mk ?_) | ((with_reducible show wpList _ _ _ (⟨_, .store _ _ _, _, _, _, _⟩ :: _) _ _); refine Stop.mk ?_) | ((with_reducible show wpList _ _ _ (⟨_, .build _ _, _, _, _, _⟩ :: _) _ _); refine Stop.mk ?_) | ((with_reducible show wpList _ _ _ (⟨_, .buildSlice _ _ _, _, _, _, _⟩ :: _) _ _); refine Stop.mk ?_) | ((with_reducible show wpList _ _ _ (⟨_, .makeSlice _ _ _, _, _, _, _⟩ :: _) _ _); refine Stop.mk ?_) | ((with_reducible show wpList _ _ _ (⟨_, .call ⟨.builtin .append, _, _⟩, _, _, _, _⟩ :: _) _ _); refine Stop.mk ?_) | ((with_reducible show wpList _ _ _ (⟨_, .call ⟨.builtin .copy, _, _⟩, _, _, _, _⟩ :: _) _ _); refine Stop.mk ?_)); refine Stop.go (wl_store (i := 1) (by rfl) hm rfl rfl rfl (by first | rfl | exact idV_eq _) (by first | exact sizeID | (simp only [rowOf_size, idC_size]; exact sizeID)) (by simp only [rowOf_size, idC_size]) (by first | exact rowOf_one _ _ (fun _ _ => rfl) | exact idC_one _ | (exact rowOf_one _ _ (by intro i _; repeat (first | rfl | split)))) ?_); clear hm; intro w5 hm; simp only [Act.put, List.setIfInBounds_toArray, List.set_cons_zero, List.set_cons_succ]; simp only [rowOf_set, List.set_cons_zero, List.set_cons_succ, Value.cells, Act.eval, Array.getD_eq_getD_getElem?, List.getElem?_toArray, List.getElem?_cons_zero, List.getElem?_cons_succ, Option.getD_some] at hm
          go_wp2_with (first | ((with_reducible show wpList _ _ _ (⟨_, .alloc _, _, _, _, _⟩ :: _) _ _); refine Stop.mk ?_) | ((with_reducible show wpList _ _ _ (⟨_, .box _ _, _, _, _, _⟩ :: _) _ _); refine Stop.mk ?_) | ((with_reducible show wpList _ _ _ (⟨_, .load _ _, _, _, _, _⟩ :: _) _ _); refine Stop.mk ?_) | ((with_reducible show wpList _ _ _ (⟨_, .store _ _ _, _, _, _, _⟩ :: _) _ _); refine Stop.mk ?_) | ((with_reducible show wpList _ _ _ (⟨_, .build _ _, _, _, _, _⟩ :: _) _ _); refine Stop.mk ?_) | ((with_reducible show wpList _ _ _ (⟨_, .buildSlice _ _ _, _, _, _, _⟩ :: _) _ _); refine Stop.mk ?_) | ((with_reducible show wpList _ _ _ (⟨_, .makeSlice _ _ _, _, _, _, _⟩ :: _) _ _); refine Stop.mk ?_) | ((with_reducible show wpList _ _ _ (⟨_, .call ⟨.builtin .append, _, _⟩, _, _, _, _⟩ :: _) _ _); refine Stop.mk ?_) | ((with_reducible show wpList _ _ _ (⟨_, .call ⟨.builtin .copy, _, _⟩, _, _, _, _⟩ :: _) _ _); refine Stop.mk ?_)); refine bodyPost_ret (results_row_tmp (h := rfl) _ _ b1 _ _ _ _ rfl (hm.heap (i := 1) rfl) undID rfl (by first | exact sizeID | (simp only [rowOf_size, idC_size]; exact sizeID))) rfl ?_
          exact ⟨⟨(fun hg => by rw [HF.out] at hg; cases hg), (fun _ => by rw [idV_eq]; rfl)⟩, hm.ext⟩
        · go_wp2_with (first | ((with_reducible show wpList _ _ _ (⟨_, .alloc _, _, _, _, _⟩ :: _) _ _); refine Stop.mk ?_) | ((with_reducible show wpList _ _ _ (⟨_, .box _ _, _, _, _, _⟩ :: _) _ _); refine Stop.mk ?_) | ((with_reducible show wpList _ _ _ (⟨_, .load _ _, _, _, _, _⟩ :: _) _ _); refine Stop.mk ?_) | ((with_reducible show wpList _ _ _ (⟨_, .store _ _ _, _, _, _, _⟩ :: _) _ _); refine Stop.mk ?_) | ((with_reducible show wpList _ _ _ (⟨_, .build _ _, _, _, _, _⟩ :: _) _ _); refine Stop.mk ?_) | ((with_reducible show wpList _ _ _ (⟨_, .buildSlice _ _ _, _, _, _, _⟩ :: _) _ _); refine Stop.mk ?_) | ((with_reducible show wpList _ _ _ (⟨_, .makeSlice _ _ _, _, _, _, _⟩ :: _) _ _); refine Stop.mk ?_) | ((with_reducible show wpList _ _ _ (⟨_, .call ⟨.builtin .append, _, _⟩, _, _, _, _⟩ :: _) _ _); refine Stop.mk ?_) | ((with_reducible show wpList _ _ _ (⟨_, .call ⟨.builtin .copy, _, _⟩, _, _, _, _⟩ :: _) _ _); refine Stop.mk ?_)); refine (digit_bad _ (by rw [HY.out]; omega) HB2.out _).mono ?_; rintro e w4 ⟨rfl, hx⟩; replace hm := hm.call hx; clear hx
          go_wp2_with (first | ((with_reducible show wpList _ _ _ (⟨_, .alloc _, _, _, _, _⟩ :: _) _ _); refine Stop.mk ?_) | ((with_reducible show wpList _ _ _ (⟨_, .box _ _, _, _, _, _⟩ :: _) _ _); refine Stop.mk ?_) | ((with_reducible show wpList _ _ _ (⟨_, .load _ _, _, _, _, _⟩ :: _) _ _); refine Stop.mk ?_) | ((with_reducible show wpList _ _ _ (⟨_, .store _ _ _, _, _, _, _⟩ :: _) _ _); refine Stop.mk ?_) | ((with_reducible show wpList _ _ _ (⟨_, .build _ _, _, _, _, _⟩ :: _) _ _); refine Stop.mk ?_) | ((with_reducible show wpList _ _ _ (⟨_, .buildSlice _ _ _, _, _, _, _⟩ :: _) _ _); refine Stop.mk ?_) | ((with_reducible show wpList _ _ _ (⟨_, .makeSlice _ _ _, _, _, _, _⟩ :: _) _ _); refine Stop.mk ?_) | ((with_reducible show wpList _ _ _ (⟨_, .call ⟨.builtin .append, _, _⟩, _, _, _, _⟩ :: _) _ _); refine Stop.mk ?_) | ((with_reducible show wpList _ _ _ (⟨_, .call ⟨.builtin .copy, _, _⟩, _, _, _, _⟩ :: _) _ _); refine Stop.mk ?_)); refine Stop.go (wl_build (by rfl) (built_zero) (by simp [Act.eval]) ?_); simp only [Act.put, List.setIfInBounds_toArray, List.set_cons_zero, List.set_cons_succ]
          go_wp2_with (first | ((with_reducible show wpList _ _ _ (⟨_, .alloc _, _, _, _, _⟩ :: _) _ _); refine Stop.mk ?_) | ((with_reducible show wpList _ _ _ (⟨_, .box _ _, _, _, _, _⟩ :: _) _ _); refine Stop.mk ?_) | ((with_reducible show wpList _ _ _ (⟨_, .load _ _, _, _, _, _⟩ :: _) _ _); refine Stop.mk ?_) | ((with_reducible show wpList _ _ _ (⟨_, .store _ _ _, _, _, _, _⟩ :: _) _ _); refine Stop.mk ?_) | ((with_reducible show wpList _ _ _ (⟨_, .build _ _, _, _, _, _⟩ :: _) _ _); refine Stop.mk ?_) | ((with_reducible show wpList _ _ _ (⟨_, .buildSlice _ _ _, _, _, _, _⟩ :: _) _ _); refine Stop.mk ?_) | ((with_reducible show wpList _ _ _ (⟨_, .makeSlice _ _ _, _, _, _, _⟩ :: _) _ _); refine Stop.mk ?_) | ((with_reducible show wpList _ _ _ (⟨_, .call ⟨.builtin .append, _, _⟩, _, _, _, _⟩ :: _) _ _); refine Stop.mk ?_) | ((with_reducible show wpList _ _ _ (⟨_, .call ⟨.builtin .copy, _, _⟩, _, _, _, _⟩ :: _) _ _); refine Stop.mk ?_)); refine Stop.go (wl_store (i := 1) (by rfl) hm rfl rfl rfl (by first | rfl | exact idV_eq _) (by first | exact sizeID | (simp only [rowOf_size, idC_size]; exact sizeID)) (by simp only [rowOf_size, idC_size]) (by first | exact rowOf_one _ _ (fun _ _ => rfl) | exact idC_one _ | (exact rowOf_one _ _ (by intro i _; repeat (first | rfl | split)))) ?_); clear hm; intro w5 hm; simp only [Act.put, List.setIfInBounds_toArray, List.set_cons_zero, List.set_cons_succ]; simp only [rowOf_set, List.set_cons_zero, List.set_cons_succ, Value.cells, Act.eval, Array.getD_eq_getD_getElem?, List.getElem?_toArray, List.getElem?_cons_zero, List.getElem?_cons_succ, Option.getD_some] at hm
          go_wp2_with (first | ((with_reducible show wpList _ _ _ (⟨_, .alloc _, _, _, _, _⟩ :: _) _ _); refine Stop.mk ?_) | ((with_reducible show wpList _ _ _ (⟨_, .box _ _, _, _, _, _⟩ :: _) _ _); refine Stop.mk ?_) | ((with_reducible show wpList _ _ _ (⟨_, .load _ _, _, _, _, _⟩ :: _) _ _); refine Stop.mk ?_) | ((with_reducible show wpList _ _ _ (⟨_, .store _ _ _, _, _, _, _⟩ :: _) _ _); refine Stop.mk ?_) | ((with_reducible show wpList _ _ _ (⟨_, .build _ _, _, _, _, _⟩ :: _) _ _); refine Stop.mk ?_) | ((with_reducible show wpList _ _ _ (⟨_, .buildSlice _ _ _, _, _, _, _⟩ :: _) _ _); refine Stop.mk ?_) | ((with_reducible show wpList _ _ _ (⟨_, .makeSlice _ _ _, _, _, _, _⟩ :: _) _ _); refine Stop.mk ?_) | ((with_reducible show wpList _ _ _ (⟨_, .call ⟨.builtin .append, _, _⟩, _, _, _, _⟩ :: _) _ _); refine Stop.mk ?_) | ((with_reducible show wpList _ _ _ (⟨_, .call ⟨.builtin .copy, _, _⟩, _, _, _, _⟩ :: _) _ _); refine Stop.mk ?_)); refine bodyPost_ret (results_row_tmp (h := rfl) _ _ b1 _ _ _ _ rfl (hm.heap (i := 1) rfl) undID rfl (by first | exact sizeID | (simp only [rowOf_size, idC_size]; exact sizeID))) rfl ?_
          exact ⟨⟨(fun hg => by rw [HF.out] at hg; cases hg), (fun _ => by rw [idV_eq]; rfl)⟩, hm.ext⟩
    · obtain rfl : k = 20 := by omega
      have e : parsed s 20 = idC (parseV s) := by
        unfold parsed idC
        apply rowOf_congr
        intro i hi
        rw [if_pos hi, dig_parse s i hi]
      have HT := hid (show goodB s = true from (goodB_iff s).2 ⟨HSZ.out, fun j hj => HG.out j (by omega)⟩)
      rw [e] at hm
      clear e
      go_wp2_with (first | ((with_reducible show wpList _ _ _ (⟨_, .alloc _, _, _, _, _⟩ :: _) _ _); refine Stop.mk ?_) | ((with_reducible show wpList _ _ _ (⟨_, .box _ _, _, _, _, _⟩ :: _) _ _); refine Stop.mk ?_) | ((with_reducible show wpList _ _ _ (⟨_, .load _ _, _, _, _, _⟩ :: _) _ _); refine Stop.mk ?_) | ((with_reducible show wpList _ _ _ (⟨_, .store _ _ _, _, _, _, _⟩ :: _) _ _); refine Stop.mk ?_) | ((with_reducible show wpList _ _ _ (⟨_, .build _ _, _, _, _, _⟩ :: _) _ _); refine Stop.mk ?_) | ((with_reducible show wpList _ _ _ (⟨_, .buildSlice _ _ _, _, _, _, _⟩ :: _) _ _); refine Stop.mk ?_) | ((with_reducible show wpList _ _ _ (⟨_, .makeSlice _ _ _, _, _, _, _⟩ :: _) _ _); refine Stop.mk ?_) | ((with_reducible show wpList _ _ _ (⟨_, .call ⟨.builtin .append, _, _⟩, _, _, _, _⟩ :: _) _ _); refine Stop.mk ?_) | ((with_reducible show wpList _ _ _ (⟨_, .call ⟨.builtin .copy, _, _⟩, _, _, _, _⟩ :: _) _ _); refine Stop.mk ?_)); refine Stop.go (wl_load (i := 0) (by rfl) hm rfl rfl undID rfl (by first | exact sizeID | (simp only [rowOf_size, idC_size]; exact sizeID)) ?_); simp only [Act.put, List.setIfInBounds_toArray, List.set_cons_zero, List.set_cons_succ]; (try simp only [← idV_eq])
      go_wp2_with (first | ((with_reducible show wpList _ _ _ (⟨_, .alloc _, _, _, _, _⟩ :: _) _ _); refine Stop.mk ?_) | ((with_reducible show wpList _ _ _ (⟨_, .box _ _, _, _, _, _⟩ :: _) _ _); refine Stop.mk ?_) | ((with_reducible show wpList _ _ _ (⟨_, .load _ _, _, _, _, _⟩ :: _) _ _); refine Stop.mk ?_) | ((with_reducible show wpList _ _ _ (⟨_, .store _ _ _, _, _, _, _⟩ :: _) _ _); refine Stop.mk ?_) | ((with_reducible show wpList _ _ _ (⟨_, .build _ _, _, _, _, _⟩ :: _) _ _); refine Stop.mk ?_) | ((with_reducible show wpList _ _ _ (⟨_, .buildSlice _ _ _, _, _, _, _⟩ :: _) _ _); refine Stop.mk ?_) | ((with_reducible show wpList _ _ _ (⟨_, .makeSlice _ _ _, _, _, _, _⟩ :: _) _ _); refine Stop.mk ?_) | ((with_reducible show wpList _ _ _ (⟨_, .call ⟨.builtin .append, _, _⟩, _, _, _, _⟩ :: _) _ _); refine Stop.mk ?_) | ((with_reducible show wpList _ _ _ (⟨_, .call ⟨.builtin .copy, _, _⟩, _, _, _, _⟩ :: _) _ _); refine Stop.mk ?_)); refine Stop.go (wl_store (i := 1) (by rfl) hm rfl rfl rfl (by first | rfl | exact idV_eq _) (by first | exact sizeID | (simp only [rowOf_size, idC_size]; exact sizeID)) (by simp only [rowOf_size, idC_size]) (by first | exact rowOf_one _ _ (fun _ _ => rfl) | exact idC_one _ | (exact rowOf_one _ _ (by intro i _; repeat (first | rfl | split)))) ?_); clear hm; intro w5 hm; simp only [Act.put, List.setIfInBounds_toArray, List.set_cons_zero, List.set_cons_succ]; simp only [rowOf_set, List.set_cons_zero, List.set_cons_succ, Value.cells, Act.eval, Array.getD_eq_getD_getElem?, List.getElem?_toArray, List.getElem?_cons_zero, List.getElem?_cons_succ, Option.getD_some] at hm
      go_wp2_with (first | ((with_reducible show wpList _ _ _ (⟨_, .alloc _, _, _, _, _⟩ :: _) _ _); refine Stop.mk ?_) | ((with_reducible show wpList _ _ _ (⟨_, .box _ _, _, _, _, _⟩ :: _) _ _); refine Stop.mk ?_) | ((with_reducible show wpList _ _ _ (⟨_, .load _ _, _, _, _, _⟩ :: _) _ _); refine Stop.mk ?_) | ((with_reducible show wpList _ _ _ (⟨_, .store _ _ _, _, _, _, _⟩ :: _) _ _); refine Stop.mk ?_) | ((with_reducible show wpList _ _ _ (⟨_, .build _ _, _, _, _, _⟩ :: _) _ _); refine Stop.mk ?_) | ((with_reducible show wpList _ _ _ (⟨_, .buildSlice _ _ _, _, _, _, _⟩ :: _) _ _); refine Stop.mk ?_) | ((with_reducible show wpList _ _ _ (⟨_, .makeSlice _ _ _, _, _, _, _⟩ :: _) _ _); refine Stop.mk ?_) | ((with_reducible show wpList _ _ _ (⟨_, .call ⟨.builtin .append, _, _⟩, _, _, _, _⟩ :: _) _ _); refine Stop.mk ?_) | ((with_reducible show wpList _ _ _ (⟨_, .call ⟨.builtin .copy, _, _⟩, _, _, _, _⟩ :: _) _ _); refine Stop.mk ?_)); refine bodyPost_ret (results_row_tmp (h := rfl) _ _ b1 _ _ _ _ rfl (hm.heap (i := 1) rfl) undID rfl (by first | exact sizeID | (simp only [rowOf_size, idC_size]; exact sizeID))) rfl ?_
      exact ⟨⟨(fun _ => by rw [idV_eq]; rfl), (fun hg => by rw [HT.out] at hg; cases hg)⟩, hm.ext⟩

/-- The contract: a text of forty digits is a place; any other is none. -/
theorem parse_c (s : ByteArray) (hs : s.size < 2 ^ 62) (w : World) :
    Calls Try.prog 22 #[.string s] w fun e w' => Parsed s e ∧ Ext w w' := by
  by_cases h : s.size = 40
  · exact parse_40 s h w
  · have hg : goodB s = false := by
      cases hg : goodB s with
      | false => rfl
      | true => exact absurd ((goodB_iff s).1 hg).1 h
    exact (parse_size s h hs w).mono fun e w' ⟨he, hx⟩ => ⟨⟨(fun g => by rw [hg] at g; cases g), (fun _ => he)⟩, hx⟩

theorem parse_good (s : ByteArray) (hg : goodB s = true) (w : World) :
    Calls Try.prog 22 #[.string s] w fun e w' => e = .returned (.tuple #[idV (parseV s), .int .i64 0]) ∧ Ext w w' :=
  (parse_c s (by have := ((goodB_iff s).1 hg).1; omega) w).mono fun _ _ ⟨h, hx⟩ => ⟨h.1 hg, hx⟩
theorem parse_bad (s : ByteArray) (hg : goodB s = false) (hs : s.size < 2 ^ 62) (w : World) :
    Calls Try.prog 22 #[.string s] w fun e w' => e = .returned (.tuple #[idV 0, .int .i64 3]) ∧ Ext w w' :=
  (parse_c s hs w).mono fun _ _ ⟨h, hx⟩ => ⟨h.2 hg, hx⟩

/-! ### The document's -/
theorem refParse_size (s : ByteArray) (h : s.size ≠ 40) (hs : s.size < 2 ^ 62) (w : World) :
    Calls Try.prog 23 #[.string s] w fun e w' => e = .returned (.tuple #[idV 0, .int .i64 3]) ∧ Ext w w' := by
  have hne : ((s.size : Int) != 40) = true := by rw [bne_iff_ne]; omega
  go_enter Try.func23, Try.ntmps23
  have hm := Mem.refl w []
  go_wp2_with (first | ((with_reducible show wpList _ _ _ (⟨_, .alloc _, _, _, _, _⟩ :: _) _ _); refine Stop.mk ?_) | ((with_reducible show wpList _ _ _ (⟨_, .box _ _, _, _, _, _⟩ :: _) _ _); refine Stop.mk ?_) | ((with_reducible show wpList _ _ _ (⟨_, .load _ _, _, _, _, _⟩ :: _) _ _); refine Stop.mk ?_) | ((with_reducible show wpList _ _ _ (⟨_, .store _ _ _, _, _, _, _⟩ :: _) _ _); refine Stop.mk ?_) | ((with_reducible show wpList _ _ _ (⟨_, .build _ _, _, _, _, _⟩ :: _) _ _); refine Stop.mk ?_) | ((with_reducible show wpList _ _ _ (⟨_, .buildSlice _ _ _, _, _, _, _⟩ :: _) _ _); refine Stop.mk ?_) | ((with_reducible show wpList _ _ _ (⟨_, .makeSlice _ _ _, _, _, _, _⟩ :: _) _ _); refine Stop.mk ?_) | ((with_reducible show wpList _ _ _ (⟨_, .call ⟨.builtin .append, _, _⟩, _, _, _, _⟩ :: _) _ _); refine Stop.mk ?_) | ((with_reducible show wpList _ _ _ (⟨_, .call ⟨.builtin .copy, _, _⟩, _, _, _, _⟩ :: _) _ _); refine Stop.mk ?_)); refine Stop.go (wl_alloc (by rfl) zeroID rfl hm ?_); clear hm; intro b1 w1 hm; simp only [Act.put, List.setIfInBounds_toArray, List.set_cons_zero, List.set_cons_succ]; (try simp only [rowOf_set, List.set_cons_zero, List.set_cons_succ, Value.cells, Act.eval, Array.getD_eq_getD_getElem?, List.getElem?_toArray, List.getElem?_cons_zero, List.getElem?_cons_succ, Option.getD_some] at hm)
  go_wp2_with (first | ((with_reducible show wpList _ _ _ (⟨_, .alloc _, _, _, _, _⟩ :: _) _ _); refine Stop.mk ?_) | ((with_reducible show wpList _ _ _ (⟨_, .box _ _, _, _, _, _⟩ :: _) _ _); refine Stop.mk ?_) | ((with_reducible show wpList _ _ _ (⟨_, .load _ _, _, _, _, _⟩ :: _) _ _); refine Stop.mk ?_) | ((with_reducible show wpList _ _ _ (⟨_, .store _ _ _, _, _, _, _⟩ :: _) _ _); refine Stop.mk ?_) | ((with_reducible show wpList _ _ _ (⟨_, .build _ _, _, _, _, _⟩ :: _) _ _); refine Stop.mk ?_) | ((with_reducible show wpList _ _ _ (⟨_, .buildSlice _ _ _, _, _, _, _⟩ :: _) _ _); refine Stop.mk ?_) | ((with_reducible show wpList _ _ _ (⟨_, .makeSlice _ _ _, _, _, _, _⟩ :: _) _ _); refine Stop.mk ?_) | ((with_reducible show wpList _ _ _ (⟨_, .call ⟨.builtin .append, _, _⟩, _, _, _, _⟩ :: _) _ _); refine Stop.mk ?_) | ((with_reducible show wpList _ _ _ (⟨_, .call ⟨.builtin .copy, _, _⟩, _, _, _, _⟩ :: _) _ _); refine Stop.mk ?_)); refine Stop.go (wl_alloc (by rfl) zeroID rfl hm ?_); clear hm; intro b2 w2 hm; simp only [Act.put, List.setIfInBounds_toArray, List.set_cons_zero, List.set_cons_succ]; (try simp only [rowOf_set, List.set_cons_zero, List.set_cons_succ, Value.cells, Act.eval, Array.getD_eq_getD_getElem?, List.getElem?_toArray, List.getElem?_cons_zero, List.getElem?_cons_succ, Option.getD_some] at hm)
  go_wp2_with (first | ((with_reducible show wpList _ _ _ (⟨_, .alloc _, _, _, _, _⟩ :: _) _ _); refine Stop.mk ?_) | ((with_reducible show wpList _ _ _ (⟨_, .box _ _, _, _, _, _⟩ :: _) _ _); refine Stop.mk ?_) | ((with_reducible show wpList _ _ _ (⟨_, .load _ _, _, _, _, _⟩ :: _) _ _); refine Stop.mk ?_) | ((with_reducible show wpList _ _ _ (⟨_, .store _ _ _, _, _, _, _⟩ :: _) _ _); refine Stop.mk ?_) | ((with_reducible show wpList _ _ _ (⟨_, .build _ _, _, _, _, _⟩ :: _) _ _); refine Stop.mk ?_) | ((with_reducible show wpList _ _ _ (⟨_, .buildSlice _ _ _, _, _, _, _⟩ :: _) _ _); refine Stop.mk ?_) | ((with_reducible show wpList _ _ _ (⟨_, .makeSlice _ _ _, _, _, _, _⟩ :: _) _ _); refine Stop.mk ?_) | ((with_reducible show wpList _ _ _ (⟨_, .call ⟨.builtin .append, _, _⟩, _, _, _, _⟩ :: _) _ _); refine Stop.mk ?_) | ((with_reducible show wpList _ _ _ (⟨_, .call ⟨.builtin .copy, _, _⟩, _, _, _, _⟩ :: _) _ _); refine Stop.mk ?_)); refine Stop.go (wl_load (i := 0) (by rfl) hm rfl rfl undID rfl (by first | exact sizeID | (simp only [rowOf_size, idC_size]; exact sizeID)) ?_); simp only [Act.put, List.setIfInBounds_toArray, List.set_cons_zero, List.set_cons_succ]; (try simp only [← idV_eq])
  go_wp2_with (first | ((with_reducible show wpList _ _ _ (⟨_, .alloc _, _, _, _, _⟩ :: _) _ _); refine Stop.mk ?_) | ((with_reducible show wpList _ _ _ (⟨_, .box _ _, _, _, _, _⟩ :: _) _ _); refine Stop.mk ?_) | ((with_reducible show wpList _ _ _ (⟨_, .load _ _, _, _, _, _⟩ :: _) _ _); refine Stop.mk ?_) | ((with_reducible show wpList _ _ _ (⟨_, .store _ _ _, _, _, _, _⟩ :: _) _ _); refine Stop.mk ?_) | ((with_reducible show wpList _ _ _ (⟨_, .build _ _, _, _, _, _⟩ :: _) _ _); refine Stop.mk ?_) | ((with_reducible show wpList _ _ _ (⟨_, .buildSlice _ _ _, _, _, _, _⟩ :: _) _ _); refine Stop.mk ?_) | ((with_reducible show wpList _ _ _ (⟨_, .makeSlice _ _ _, _, _, _, _⟩ :: _) _ _); refine Stop.mk ?_) | ((with_reducible show wpList _ _ _ (⟨_, .call ⟨.builtin .append, _, _⟩, _, _, _, _⟩ :: _) _ _); refine Stop.mk ?_) | ((with_reducible show wpList _ _ _ (⟨_, .call ⟨.builtin .copy, _, _⟩, _, _, _, _⟩ :: _) _ _); refine Stop.mk ?_)); refine Stop.go (wl_store (i := 1) (by rfl) hm rfl rfl rfl (by first | rfl | exact idV_eq _) (by first | exact sizeID | (simp only [rowOf_size, idC_size]; exact sizeID)) (by simp only [rowOf_size, idC_size]) (by first | exact rowOf_one _ _ (fun _ _ => rfl) | exact idC_one _ | (exact rowOf_one _ _ (by intro i _; repeat (first | rfl | split)))) ?_); clear hm; intro w3 hm; simp only [Act.put, List.setIfInBounds_toArray, List.set_cons_zero, List.set_cons_succ]; simp only [rowOf_set, List.set_cons_zero, List.set_cons_succ, Value.cells, Act.eval, Array.getD_eq_getD_getElem?, List.getElem?_toArray, List.getElem?_cons_zero, List.getElem?_cons_succ, Option.getD_some] at hm
  go_wp2_with (first | ((with_reducible show wpList _ _ _ (⟨_, .alloc _, _, _, _, _⟩ :: _) _ _); refine Stop.mk ?_) | ((with_reducible show wpList _ _ _ (⟨_, .box _ _, _, _, _, _⟩ :: _) _ _); refine Stop.mk ?_) | ((with_reducible show wpList _ _ _ (⟨_, .load _ _, _, _, _, _⟩ :: _) _ _); refine Stop.mk ?_) | ((with_reducible show wpList _ _ _ (⟨_, .store _ _ _, _, _, _, _⟩ :: _) _ _); refine Stop.mk ?_) | ((with_reducible show wpList _ _ _ (⟨_, .build _ _, _, _, _, _⟩ :: _) _ _); refine Stop.mk ?_) | ((with_reducible show wpList _ _ _ (⟨_, .buildSlice _ _ _, _, _, _, _⟩ :: _) _ _); refine Stop.mk ?_) | ((with_reducible show wpList _ _ _ (⟨_, .makeSlice _ _ _, _, _, _, _⟩ :: _) _ _); refine Stop.mk ?_) | ((with_reducible show wpList _ _ _ (⟨_, .call ⟨.builtin .append, _, _⟩, _, _, _, _⟩ :: _) _ _); refine Stop.mk ?_) | ((with_reducible show wpList _ _ _ (⟨_, .call ⟨.builtin .copy, _, _⟩, _, _, _, _⟩ :: _) _ _); refine Stop.mk ?_)); refine bodyPost_ret (results_row_tmp (h := rfl) _ _ b1 _ _ _ _ rfl (hm.heap (i := 1) rfl) undID rfl (by first | exact sizeID | (simp only [rowOf_size, idC_size]; exact sizeID))) rfl ?_
  exact ⟨by rw [zero_row]; rfl, hm.ext⟩

/-- Byte j of the row when k letters have been read. -/
def halfV (s : ByteArray) (k j : Nat) : Nat := if 2 * j + 1 < k then pairV s j else if 2 * j < k then hexv (bt s (2 * j)) else 0
def halved (s : ByteArray) (k : Nat) : Array Value := rowOf 20 fun j => .int .u8 ((halfV s k j : Nat) : Int)

theorem refParse_40 (s : ByteArray) (h : s.size = 40) (w : World) :
    Calls Try.prog 23 #[.string s] w fun e w' => Parsed s e ∧ Ext w w' := by
  have hne : ((s.size : Int) != 40) = false := by rw [h]; rfl
  have hsz : (40 : Int) ≤ (s.size : Int) := by omega
  have hsz' : (s.size : Int) ≤ 40 := by omega
  have HSZ := hid h
  clear h
  go_enter Try.func23, Try.ntmps23
  have hm := Mem.refl w []
  go_wp2_with (first | ((with_reducible show wpList _ _ _ (⟨_, .alloc _, _, _, _, _⟩ :: _) _ _); refine Stop.mk ?_) | ((with_reducible show wpList _ _ _ (⟨_, .box _ _, _, _, _, _⟩ :: _) _ _); refine Stop.mk ?_) | ((with_reducible show wpList _ _ _ (⟨_, .load _ _, _, _, _, _⟩ :: _) _ _); refine Stop.mk ?_) | ((with_reducible show wpList _ _ _ (⟨_, .store _ _ _, _, _, _, _⟩ :: _) _ _); refine Stop.mk ?_) | ((with_reducible show wpList _ _ _ (⟨_, .build _ _, _, _, _, _⟩ :: _) _ _); refine Stop.mk ?_) | ((with_reducible show wpList _ _ _ (⟨_, .buildSlice _ _ _, _, _, _, _⟩ :: _) _ _); refine Stop.mk ?_) | ((with_reducible show wpList _ _ _ (⟨_, .makeSlice _ _ _, _, _, _, _⟩ :: _) _ _); refine Stop.mk ?_) | ((with_reducible show wpList _ _ _ (⟨_, .call ⟨.builtin .append, _, _⟩, _, _, _, _⟩ :: _) _ _); refine Stop.mk ?_) | ((with_reducible show wpList _ _ _ (⟨_, .call ⟨.builtin .copy, _, _⟩, _, _, _, _⟩ :: _) _ _); refine Stop.mk ?_)); refine Stop.go (wl_alloc (by rfl) zeroID rfl hm ?_); clear hm; intro b1 w1 hm; simp only [Act.put, List.setIfInBounds_toArray, List.set_cons_zero, List.set_cons_succ]; (try simp only [rowOf_set, List.set_cons_zero, List.set_cons_succ, Value.cells, Act.eval, Array.getD_eq_getD_getElem?, List.getElem?_toArray, List.getElem?_cons_zero, List.getElem?_cons_succ, Option.getD_some] at hm)
  go_wp2_with (first | ((with_reducible show wpList _ _ _ (⟨_, .alloc _, _, _, _, _⟩ :: _) _ _); refine Stop.mk ?_) | ((with_reducible show wpList _ _ _ (⟨_, .box _ _, _, _, _, _⟩ :: _) _ _); refine Stop.mk ?_) | ((with_reducible show wpList _ _ _ (⟨_, .load _ _, _, _, _, _⟩ :: _) _ _); refine Stop.mk ?_) | ((with_reducible show wpList _ _ _ (⟨_, .store _ _ _, _, _, _, _⟩ :: _) _ _); refine Stop.mk ?_) | ((with_reducible show wpList _ _ _ (⟨_, .build _ _, _, _, _, _⟩ :: _) _ _); refine Stop.mk ?_) | ((with_reducible show wpList _ _ _ (⟨_, .buildSlice _ _ _, _, _, _, _⟩ :: _) _ _); refine Stop.mk ?_) | ((with_reducible show wpList _ _ _ (⟨_, .makeSlice _ _ _, _, _, _, _⟩ :: _) _ _); refine Stop.mk ?_) | ((with_reducible show wpList _ _ _ (⟨_, .call ⟨.builtin .append, _, _⟩, _, _, _, _⟩ :: _) _ _); refine Stop.mk ?_) | ((with_reducible show wpList _ _ _ (⟨_, .call ⟨.builtin .copy, _, _⟩, _, _, _, _⟩ :: _) _ _); refine Stop.mk ?_)); refine Stop.go (wl_alloc (by rfl) zeroID rfl hm ?_); clear hm; intro b2 w2 hm; simp only [Act.put, List.setIfInBounds_toArray, List.set_cons_zero, List.set_cons_succ]; (try simp only [rowOf_set, List.set_cons_zero, List.set_cons_succ, Value.cells, Act.eval, Array.getD_eq_getD_getElem?, List.getElem?_toArray, List.getElem?_cons_zero, List.getElem?_cons_succ, Option.getD_some] at hm)
  go_wp2_with (first | ((with_reducible show wpList _ _ _ (⟨_, .alloc _, _, _, _, _⟩ :: _) _ _); refine Stop.mk ?_) | ((with_reducible show wpList _ _ _ (⟨_, .box _ _, _, _, _, _⟩ :: _) _ _); refine Stop.mk ?_) | ((with_reducible show wpList _ _ _ (⟨_, .load _ _, _, _, _, _⟩ :: _) _ _); refine Stop.mk ?_) | ((with_reducible show wpList _ _ _ (⟨_, .store _ _ _, _, _, _, _⟩ :: _) _ _); refine Stop.mk ?_) | ((with_reducible show wpList _ _ _ (⟨_, .build _ _, _, _, _, _⟩ :: _) _ _); refine Stop.mk ?_) | ((with_reducible show wpList _ _ _ (⟨_, .buildSlice _ _ _, _, _, _, _⟩ :: _) _ _); refine Stop.mk ?_) | ((with_reducible show wpList _ _ _ (⟨_, .makeSlice _ _ _, _, _, _, _⟩ :: _) _ _); refine Stop.mk ?_) | ((with_reducible show wpList _ _ _ (⟨_, .call ⟨.builtin .append, _, _⟩, _, _, _, _⟩ :: _) _ _); refine Stop.mk ?_) | ((with_reducible show wpList _ _ _ (⟨_, .call ⟨.builtin .copy, _, _⟩, _, _, _, _⟩ :: _) _ _); refine Stop.mk ?_))
  go_loopw [5] (fun i wr => ∃ k : Nat, k ≤ 40 ∧ i = .int .i64 (k : Int) ∧ Hid (∀ j, j < k → hexv (bt s j) < 16) ∧ Mem w [] [(b2, .cells (halved s k) 23), (b1, .cells (rowOf 20 fun _ => .int .u8 0) 23)] wr)
    (fun i _ => (40 - intOf i).toNat)
  case atStart =>
    refine ⟨0, by omega, rfl, fun j hj => by omega, ?_⟩
    unfold halved halfV
    simp only [Nat.not_lt_zero, if_false]
    exact hm
  case round =>
    clear hm
    obtain ⟨k, hk, rfl, HG, hm⟩ := hrel
    by_cases h0 : k < 40
    · have hk40 : (k : Int) < 40 := by omega
      have hk0 : (0 : Int) ≤ (k : Int) := by omega
      have ks : (k : Int) < (s.size : Int) := by omega
      have v1 := hexv_le (bt s k)
      have HB1 := hid (bt_lt s k)
      have e1 := bt_eq s k (by have := HSZ.out; omega)
      obtain ⟨x, hx⟩ : ∃ x, hexv (bt s k) = x := ⟨_, rfl⟩
      rw [hx] at v1
      have HX := hid hx
      clear hx
      by_cases hx16 : x < 16
      · have c1 : ∀ w, Calls Try.prog 29 #[.int .u8 ((bt s k : Nat) : Int)] w fun e w' => e = .returned (.int .i64 (x : Int)) ∧ Ext w w' := fun w =>
          (refDigit_c (bt s k) HB1.out w).mono fun e w' ⟨he, hx⟩ => ⟨by rw [he, HX.out, if_pos hx16], hx⟩
        have C1 := hid c1
        clear c1
        have hv : halfV s k (k / 2) ≤ 15 := by
          have hl := HG.out
          unfold halfV
          rw [if_neg (by omega)]
          split
          · have := hl (2 * (k / 2)) (by omega); omega
          · omega
        obtain ⟨y, hy⟩ : ∃ y, halfV s k (k / 2) = y := ⟨_, rfl⟩
        rw [hy] at hv
        have HY := hid hy
        clear hy
        have HL := hid (show (halved s k)[k / 2]? = some (.int .u8 (y : Int)) from by rw [halved, rowOf_get _ _ _ (by omega), HY.out])
        have d1 : ((k : Int) / 2).toNat = k / 2 := by omega
        have d2 : (0 : Int) ≤ (k : Int) / 2 := by omega
        have d3 : (k : Int) / 2 < 20 := by omega
        have r1 : IntKind.i64.wrap ((k : Int) / 2) = (k : Int) / 2 := wrap_i64 (by omega) (by omega)
        have r2 : IntKind.i64.wrap ((y : Nat) : Int) = (y : Int) := wrap_i64 (by omega) (by omega)
        have r3 : IntKind.i64.wrap ((y : Int) * 16) = (y : Int) * 16 := wrap_i64 (by omega) (by omega)
        have r4 : IntKind.i64.wrap ((y : Int) * 16 + (x : Int)) = (y : Int) * 16 + (x : Int) := wrap_i64 (by omega) (by omega)
        have r5 : IntKind.u8.wrap ((y : Int) * 16 + (x : Int)) = (y : Int) * 16 + (x : Int) := wrap_u8 (by omega) (by omega)
        have r6 : IntKind.i64.wrap ((k : Int).tdiv 2) = (k : Int) / 2 := by rw [Int.tdiv_eq_ediv_of_nonneg (by omega)]; exact wrap_i64 (by omega) (by omega)
        go_wp2_with (first | ((with_reducible show wpList _ _ _ (⟨_, .alloc _, _, _, _, _⟩ :: _) _ _); refine Stop.mk ?_) | ((with_reducible show wpList _ _ _ (⟨_, .box _ _, _, _, _, _⟩ :: _) _ _); refine Stop.mk ?_) | ((with_reducible show wpList _ _ _ (⟨_, .load _ _, _, _, _, _⟩ :: _) _ _); refine Stop.mk ?_) | ((with_reducible show wpList _ _ _ (⟨_, .store _ _ _, _, _, _, _⟩ :: _) _ _); refine Stop.mk ?_) | ((with_reducible show wpList _ _ _ (⟨_, .build _ _, _, _, _, _⟩ :: _) _ _); refine Stop.mk ?_) | ((with_reducible show wpList _ _ _ (⟨_, .buildSlice _ _ _, _, _, _, _⟩ :: _) _ _); refine Stop.mk ?_) | ((with_reducible show wpList _ _ _ (⟨_, .makeSlice _ _ _, _, _, _, _⟩ :: _) _ _); refine Stop.mk ?_) | ((with_reducible show wpList _ _ _ (⟨_, .call ⟨.builtin .append, _, _⟩, _, _, _, _⟩ :: _) _ _); refine Stop.mk ?_) | ((with_reducible show wpList _ _ _ (⟨_, .call ⟨.builtin .copy, _, _⟩, _, _, _, _⟩ :: _) _ _); refine Stop.mk ?_)); refine (C1.out _).mono ?_; rintro e w3 ⟨rfl, hx⟩; replace hm := hm.call hx; clear hx
        go_wp2_with (first | ((with_reducible show wpList _ _ _ (⟨_, .alloc _, _, _, _, _⟩ :: _) _ _); refine Stop.mk ?_) | ((with_reducible show wpList _ _ _ (⟨_, .box _ _, _, _, _, _⟩ :: _) _ _); refine Stop.mk ?_) | ((with_reducible show wpList _ _ _ (⟨_, .load _ _, _, _, _, _⟩ :: _) _ _); refine Stop.mk ?_) | ((with_reducible show wpList _ _ _ (⟨_, .store _ _ _, _, _, _, _⟩ :: _) _ _); refine Stop.mk ?_) | ((with_reducible show wpList _ _ _ (⟨_, .build _ _, _, _, _, _⟩ :: _) _ _); refine Stop.mk ?_) | ((with_reducible show wpList _ _ _ (⟨_, .buildSlice _ _ _, _, _, _, _⟩ :: _) _ _); refine Stop.mk ?_) | ((with_reducible show wpList _ _ _ (⟨_, .makeSlice _ _ _, _, _, _, _⟩ :: _) _ _); refine Stop.mk ?_) | ((with_reducible show wpList _ _ _ (⟨_, .call ⟨.builtin .append, _, _⟩, _, _, _, _⟩ :: _) _ _); refine Stop.mk ?_) | ((with_reducible show wpList _ _ _ (⟨_, .call ⟨.builtin .copy, _, _⟩, _, _, _, _⟩ :: _) _ _); refine Stop.mk ?_)); refine wp_quiet_last 15 (by kernel_rfl) rfl (by kernel_rfl) (by kernel_rfl) hm ?_; simp only [List.take_succ_cons, List.take_zero, List.cons_append, List.nil_append, hush]
        refine wq_any (by rfl) ?_; apply Exists.intro; refine ⟨?_, ?_⟩; · (intro w hC; go_simp; try with_reducible rfl)
        simp only [Act.put, List.setIfInBounds_toArray, List.set_cons_zero, List.set_cons_succ]
        refine wq_any (by rfl) ?_; apply Exists.intro; refine ⟨?_, ?_⟩; · (intro w hC; go_simp; try with_reducible rfl)
        simp only [Act.put, List.setIfInBounds_toArray, List.set_cons_zero, List.set_cons_succ]
        refine wq_any (by rfl) ?_; apply Exists.intro; refine ⟨?_, ?_⟩; · (intro w hC; go_simp; try with_reducible rfl)
        simp only [Act.put, List.setIfInBounds_toArray, List.set_cons_zero, List.set_cons_succ]
        refine wq_any (by rfl) ?_; apply Exists.intro; refine ⟨?_, ?_⟩; · (intro w hC; go_simp; try with_reducible rfl)
        simp only [Act.put, List.setIfInBounds_toArray, List.set_cons_zero, List.set_cons_succ]
        refine wq_any (by rfl) ?_; apply Exists.intro; refine ⟨?_, ?_⟩; · (intro w hC; go_simp; try with_reducible rfl)
        simp only [Act.put, List.setIfInBounds_toArray, List.set_cons_zero, List.set_cons_succ]
        refine wq_loadCell (i := 0) rfl rfl rfl (HL.out) undByte rfl ?_; simp only [Act.put, List.setIfInBounds_toArray, List.set_cons_zero, List.set_cons_succ]
        refine wq_any (by rfl) ?_; apply Exists.intro; refine ⟨?_, ?_⟩; · (intro w hC; go_simp; try with_reducible rfl)
        simp only [Act.put, List.setIfInBounds_toArray, List.set_cons_zero, List.set_cons_succ]
        refine wq_any (by rfl) ?_; apply Exists.intro; refine ⟨?_, ?_⟩; · (intro w hC; go_simp; try with_reducible rfl)
        simp only [Act.put, List.setIfInBounds_toArray, List.set_cons_zero, List.set_cons_succ]
        refine wq_any (by rfl) ?_; apply Exists.intro; refine ⟨?_, ?_⟩; · (intro w hC; go_simp; try with_reducible rfl)
        simp only [Act.put, List.setIfInBounds_toArray, List.set_cons_zero, List.set_cons_succ]
        refine wq_any (by rfl) ?_; apply Exists.intro; refine ⟨?_, ?_⟩; · (intro w hC; go_simp; try with_reducible rfl)
        simp only [Act.put, List.setIfInBounds_toArray, List.set_cons_zero, List.set_cons_succ]
        refine wq_any (by rfl) ?_; apply Exists.intro; refine ⟨?_, ?_⟩; · (intro w hC; go_simp; try with_reducible rfl)
        simp only [Act.put, List.setIfInBounds_toArray, List.set_cons_zero, List.set_cons_succ]
        refine wq_ask (by rfl) ?_; apply Exists.intro; refine ⟨?_, ?_⟩; · (intro w hC; go_simp; exact (C1.out _).mono fun e w' h => ⟨h.1, hC.call h.2⟩)
        simp only [Act.put, List.setIfInBounds_toArray, List.set_cons_zero, List.set_cons_succ]
        refine wq_any (by rfl) ?_; apply Exists.intro; refine ⟨?_, ?_⟩; · (intro w hC; go_simp; try with_reducible rfl)
        simp only [Act.put, List.setIfInBounds_toArray, List.set_cons_zero, List.set_cons_succ]
        refine wq_any (by rfl) ?_; apply Exists.intro; refine ⟨?_, ?_⟩; · (intro w hC; go_simp; try with_reducible rfl)
        simp only [Act.put, List.setIfInBounds_toArray, List.set_cons_zero, List.set_cons_succ]
        refine wq_any (by rfl) ?_; apply Exists.intro; refine ⟨?_, ?_⟩; · (intro w hC; go_simp; try with_reducible rfl)
        simp only [Act.put, List.setIfInBounds_toArray, List.set_cons_zero, List.set_cons_succ]
        refine wpQuiet_nil ?_; clear hm; intro w4 hm
        go_wp2_with (first | ((with_reducible show wpList _ _ _ (⟨_, .alloc _, _, _, _, _⟩ :: _) _ _); refine Stop.mk ?_) | ((with_reducible show wpList _ _ _ (⟨_, .box _ _, _, _, _, _⟩ :: _) _ _); refine Stop.mk ?_) | ((with_reducible show wpList _ _ _ (⟨_, .load _ _, _, _, _, _⟩ :: _) _ _); refine Stop.mk ?_) | ((with_reducible show wpList _ _ _ (⟨_, .store _ _ _, _, _, _, _⟩ :: _) _ _); refine Stop.mk ?_) | ((with_reducible show wpList _ _ _ (⟨_, .build _ _, _, _, _, _⟩ :: _) _ _); refine Stop.mk ?_) | ((with_reducible show wpList _ _ _ (⟨_, .buildSlice _ _ _, _, _, _, _⟩ :: _) _ _); refine Stop.mk ?_) | ((with_reducible show wpList _ _ _ (⟨_, .makeSlice _ _ _, _, _, _, _⟩ :: _) _ _); refine Stop.mk ?_) | ((with_reducible show wpList _ _ _ (⟨_, .call ⟨.builtin .append, _, _⟩, _, _, _, _⟩ :: _) _ _); refine Stop.mk ?_) | ((with_reducible show wpList _ _ _ (⟨_, .call ⟨.builtin .copy, _, _⟩, _, _, _, _⟩ :: _) _ _); refine Stop.mk ?_))
        refine Stop.go (wl_storeCell (i := 0) (by rfl) hm rfl rfl rfl rfl sizeByte (by unfold halved; simp only [rowOf_size]; omega) ?_); clear hm; intro w5 hm; simp only [Act.put, List.setIfInBounds_toArray, List.set_cons_zero, List.set_cons_succ]; (try simp only [rowOf_set, List.set_cons_zero, List.set_cons_succ, Value.cells, Act.eval, Array.getD_eq_getD_getElem?, List.getElem?_toArray, List.getElem?_cons_zero, List.getElem?_cons_succ, Option.getD_some] at hm)
        have HN := hid (show ∀ j, j < k + 1 → hexv (bt s j) < 16 from fun j hj => by
          by_cases h1 : j < k
          · exact HG.out j h1
          · rw [show j = k from by omega, HX.out]; exact hx16)
        have e : (halved s k).setIfInBounds (k / 2) (.int .u8 ((y : Int) * 16 + (x : Int))) = halved s (k + 1) := by
          unfold halved
          rw [rowOf_set]
          apply rowOf_congr
          intro j hj
          have hY := HY.out
          unfold halfV at hY ⊢
          by_cases hjk : j = k / 2
          · rw [if_pos hjk]
            subst hjk
            rw [if_neg (by omega)] at hY
            by_cases hodd : 2 * (k / 2) < k
            · rw [if_pos hodd] at hY
              rw [if_pos (by omega), pairV, hY, show 2 * (k / 2) + 1 = k from by omega, HX.out]
              congr 1
              omega
            · rw [if_neg hodd] at hY
              rw [if_neg (by omega), if_pos (by omega), show 2 * (k / 2) = k from by omega, HX.out]
              congr 1
              omega
          · rw [if_neg hjk]
            by_cases ha : 2 * j + 1 < k
            · rw [if_pos ha, if_pos (by omega)]
            · by_cases hb : 2 * j < k
              · rw [if_neg ha, if_pos hb, if_neg (show ¬ 2 * j + 1 < k + 1 by omega), if_pos (show 2 * j < k + 1 by omega)]
              · rw [if_neg ha, if_neg hb, if_neg (show ¬ 2 * j + 1 < k + 1 by omega), if_neg (show ¬ 2 * j < k + 1 by omega)]
        rw [e] at hm
        clear e
        go_wp2_with (first | ((with_reducible show wpList _ _ _ (⟨_, .alloc _, _, _, _, _⟩ :: _) _ _); refine Stop.mk ?_) | ((with_reducible show wpList _ _ _ (⟨_, .box _ _, _, _, _, _⟩ :: _) _ _); refine Stop.mk ?_) | ((with_reducible show wpList _ _ _ (⟨_, .load _ _, _, _, _, _⟩ :: _) _ _); refine Stop.mk ?_) | ((with_reducible show wpList _ _ _ (⟨_, .store _ _ _, _, _, _, _⟩ :: _) _ _); refine Stop.mk ?_) | ((with_reducible show wpList _ _ _ (⟨_, .build _ _, _, _, _, _⟩ :: _) _ _); refine Stop.mk ?_) | ((with_reducible show wpList _ _ _ (⟨_, .buildSlice _ _ _, _, _, _, _⟩ :: _) _ _); refine Stop.mk ?_) | ((with_reducible show wpList _ _ _ (⟨_, .makeSlice _ _ _, _, _, _, _⟩ :: _) _ _); refine Stop.mk ?_) | ((with_reducible show wpList _ _ _ (⟨_, .call ⟨.builtin .append, _, _⟩, _, _, _, _⟩ :: _) _ _); refine Stop.mk ?_) | ((with_reducible show wpList _ _ _ (⟨_, .call ⟨.builtin .copy, _, _⟩, _, _, _, _⟩ :: _) _ _); refine Stop.mk ?_))
        go_roundw
        case rel => exact ⟨k + 1, by omega, by go_num, HN, hm⟩
        case measure => simp [intOf]; omega
      · have HF := hid (show goodB s = false from by
          cases hg : goodB s with
          | false => rfl
          | true => have := ((goodB_iff s).1 hg).2 k (by omega); rw [HX.out] at this; omega)
        have c1 : ∀ w, Calls Try.prog 29 #[.int .u8 ((bt s k : Nat) : Int)] w fun e w' => e = .returned (.int .i64 (-1)) ∧ Ext w w' := fun w =>
          (refDigit_c (bt s k) HB1.out w).mono fun e w' ⟨he, hx⟩ => ⟨by rw [he, HX.out, if_neg hx16], hx⟩
        have C1 := hid c1
        clear c1
        go_wp2_with (first | ((with_reducible show wpList _ _ _ (⟨_, .alloc _, _, _, _, _⟩ :: _) _ _); refine Stop.mk ?_) | ((with_reducible show wpList _ _ _ (⟨_, .box _ _, _, _, _, _⟩ :: _) _ _); refine Stop.mk ?_) | ((with_reducible show wpList _ _ _ (⟨_, .load _ _, _, _, _, _⟩ :: _) _ _); refine Stop.mk ?_) | ((with_reducible show wpList _ _ _ (⟨_, .store _ _ _, _, _, _, _⟩ :: _) _ _); refine Stop.mk ?_) | ((with_reducible show wpList _ _ _ (⟨_, .build _ _, _, _, _, _⟩ :: _) _ _); refine Stop.mk ?_) | ((with_reducible show wpList _ _ _ (⟨_, .buildSlice _ _ _, _, _, _, _⟩ :: _) _ _); refine Stop.mk ?_) | ((with_reducible show wpList _ _ _ (⟨_, .makeSlice _ _ _, _, _, _, _⟩ :: _) _ _); refine Stop.mk ?_) | ((with_reducible show wpList _ _ _ (⟨_, .call ⟨.builtin .append, _, _⟩, _, _, _, _⟩ :: _) _ _); refine Stop.mk ?_) | ((with_reducible show wpList _ _ _ (⟨_, .call ⟨.builtin .copy, _, _⟩, _, _, _, _⟩ :: _) _ _); refine Stop.mk ?_)); refine (C1.out _).mono ?_; rintro e w3 ⟨rfl, hx⟩; replace hm := hm.call hx; clear hx
        go_wp2_with (first | ((with_reducible show wpList _ _ _ (⟨_, .alloc _, _, _, _, _⟩ :: _) _ _); refine Stop.mk ?_) | ((with_reducible show wpList _ _ _ (⟨_, .box _ _, _, _, _, _⟩ :: _) _ _); refine Stop.mk ?_) | ((with_reducible show wpList _ _ _ (⟨_, .load _ _, _, _, _, _⟩ :: _) _ _); refine Stop.mk ?_) | ((with_reducible show wpList _ _ _ (⟨_, .store _ _ _, _, _, _, _⟩ :: _) _ _); refine Stop.mk ?_) | ((with_reducible show wpList _ _ _ (⟨_, .build _ _, _, _, _, _⟩ :: _) _ _); refine Stop.mk ?_) | ((with_reducible show wpList _ _ _ (⟨_, .buildSlice _ _ _, _, _, _, _⟩ :: _) _ _); refine Stop.mk ?_) | ((with_reducible show wpList _ _ _ (⟨_, .makeSlice _ _ _, _, _, _, _⟩ :: _) _ _); refine Stop.mk ?_) | ((with_reducible show wpList _ _ _ (⟨_, .call ⟨.builtin .append, _, _⟩, _, _, _, _⟩ :: _) _ _); refine Stop.mk ?_) | ((with_reducible show wpList _ _ _ (⟨_, .call ⟨.builtin .copy, _, _⟩, _, _, _, _⟩ :: _) _ _); refine Stop.mk ?_)); refine Stop.go (wl_build (by rfl) (built_zero) (by simp [Act.eval]) ?_); simp only [Act.put, List.setIfInBounds_toArray, List.set_cons_zero, List.set_cons_succ]
        go_wp2_with (first | ((with_reducible show wpList _ _ _ (⟨_, .alloc _, _, _, _, _⟩ :: _) _ _); refine Stop.mk ?_) | ((with_reducible show wpList _ _ _ (⟨_, .box _ _, _, _, _, _⟩ :: _) _ _); refine Stop.mk ?_) | ((with_reducible show wpList _ _ _ (⟨_, .load _ _, _, _, _, _⟩ :: _) _ _); refine Stop.mk ?_) | ((with_reducible show wpList _ _ _ (⟨_, .store _ _ _, _, _, _, _⟩ :: _) _ _); refine Stop.mk ?_) | ((with_reducible show wpList _ _ _ (⟨_, .build _ _, _, _, _, _⟩ :: _) _ _); refine Stop.mk ?_) | ((with_reducible show wpList _ _ _ (⟨_, .buildSlice _ _ _, _, _, _, _⟩ :: _) _ _); refine Stop.mk ?_) | ((with_reducible show wpList _ _ _ (⟨_, .makeSlice _ _ _, _, _, _, _⟩ :: _) _ _); refine Stop.mk ?_) | ((with_reducible show wpList _ _ _ (⟨_, .call ⟨.builtin .append, _, _⟩, _, _, _, _⟩ :: _) _ _); refine Stop.mk ?_) | ((with_reducible show wpList _ _ _ (⟨_, .call ⟨.builtin .copy, _, _⟩, _, _, _, _⟩ :: _) _ _); refine Stop.mk ?_)); refine Stop.go (wl_store (i := 1) (by rfl) hm rfl rfl rfl (by first | rfl | exact idV_eq _) (by first | exact sizeID | (simp only [rowOf_size, idC_size]; exact sizeID)) (by simp only [rowOf_size, idC_size]) (by first | exact rowOf_one _ _ (fun _ _ => rfl) | exact idC_one _ | (exact rowOf_one _ _ (by intro i _; repeat (first | rfl | split)))) ?_); clear hm; intro w5 hm; simp only [Act.put, List.setIfInBounds_toArray, List.set_cons_zero, List.set_cons_succ]; simp only [rowOf_set, List.set_cons_zero, List.set_cons_succ, Value.cells, Act.eval, Array.getD_eq_getD_getElem?, List.getElem?_toArray, List.getElem?_cons_zero, List.getElem?_cons_succ, Option.getD_some] at hm
        go_wp2_with (first | ((with_reducible show wpList _ _ _ (⟨_, .alloc _, _, _, _, _⟩ :: _) _ _); refine Stop.mk ?_) | ((with_reducible show wpList _ _ _ (⟨_, .box _ _, _, _, _, _⟩ :: _) _ _); refine Stop.mk ?_) | ((with_reducible show wpList _ _ _ (⟨_, .load _ _, _, _, _, _⟩ :: _) _ _); refine Stop.mk ?_) | ((with_reducible show wpList _ _ _ (⟨_, .store _ _ _, _, _, _, _⟩ :: _) _ _); refine Stop.mk ?_) | ((with_reducible show wpList _ _ _ (⟨_, .build _ _, _, _, _, _⟩ :: _) _ _); refine Stop.mk ?_) | ((with_reducible show wpList _ _ _ (⟨_, .buildSlice _ _ _, _, _, _, _⟩ :: _) _ _); refine Stop.mk ?_) | ((with_reducible show wpList _ _ _ (⟨_, .makeSlice _ _ _, _, _, _, _⟩ :: _) _ _); refine Stop.mk ?_) | ((with_reducible show wpList _ _ _ (⟨_, .call ⟨.builtin .append, _, _⟩, _, _, _, _⟩ :: _) _ _); refine Stop.mk ?_) | ((with_reducible show wpList _ _ _ (⟨_, .call ⟨.builtin .copy, _, _⟩, _, _, _, _⟩ :: _) _ _); refine Stop.mk ?_)); refine bodyPost_ret (results_row_tmp (h := rfl) _ _ b1 _ _ _ _ rfl (hm.heap (i := 1) rfl) undID rfl (by first | exact sizeID | (simp only [rowOf_size, idC_size]; exact sizeID))) rfl ?_
        exact ⟨⟨(fun hg => by rw [HF.out] at hg; cases hg), (fun _ => by rw [idV_eq]; rfl)⟩, hm.ext⟩
    · obtain rfl : k = 40 := by omega
      have e : halved s 40 = idC (parseV s) := by
        unfold halved idC halfV
        apply rowOf_congr
        intro i hi
        rw [if_pos (by omega), dig_parse s i hi]
      have HT := hid (show goodB s = true from (goodB_iff s).2 ⟨HSZ.out, fun j hj => HG.out j (by omega)⟩)
      rw [e] at hm
      clear e
      go_wp2_with (first | ((with_reducible show wpList _ _ _ (⟨_, .alloc _, _, _, _, _⟩ :: _) _ _); refine Stop.mk ?_) | ((with_reducible show wpList _ _ _ (⟨_, .box _ _, _, _, _, _⟩ :: _) _ _); refine Stop.mk ?_) | ((with_reducible show wpList _ _ _ (⟨_, .load _ _, _, _, _, _⟩ :: _) _ _); refine Stop.mk ?_) | ((with_reducible show wpList _ _ _ (⟨_, .store _ _ _, _, _, _, _⟩ :: _) _ _); refine Stop.mk ?_) | ((with_reducible show wpList _ _ _ (⟨_, .build _ _, _, _, _, _⟩ :: _) _ _); refine Stop.mk ?_) | ((with_reducible show wpList _ _ _ (⟨_, .buildSlice _ _ _, _, _, _, _⟩ :: _) _ _); refine Stop.mk ?_) | ((with_reducible show wpList _ _ _ (⟨_, .makeSlice _ _ _, _, _, _, _⟩ :: _) _ _); refine Stop.mk ?_) | ((with_reducible show wpList _ _ _ (⟨_, .call ⟨.builtin .append, _, _⟩, _, _, _, _⟩ :: _) _ _); refine Stop.mk ?_) | ((with_reducible show wpList _ _ _ (⟨_, .call ⟨.builtin .copy, _, _⟩, _, _, _, _⟩ :: _) _ _); refine Stop.mk ?_)); refine Stop.go (wl_load (i := 0) (by rfl) hm rfl rfl undID rfl (by first | exact sizeID | (simp only [rowOf_size, idC_size]; exact sizeID)) ?_); simp only [Act.put, List.setIfInBounds_toArray, List.set_cons_zero, List.set_cons_succ]; (try simp only [← idV_eq])
      go_wp2_with (first | ((with_reducible show wpList _ _ _ (⟨_, .alloc _, _, _, _, _⟩ :: _) _ _); refine Stop.mk ?_) | ((with_reducible show wpList _ _ _ (⟨_, .box _ _, _, _, _, _⟩ :: _) _ _); refine Stop.mk ?_) | ((with_reducible show wpList _ _ _ (⟨_, .load _ _, _, _, _, _⟩ :: _) _ _); refine Stop.mk ?_) | ((with_reducible show wpList _ _ _ (⟨_, .store _ _ _, _, _, _, _⟩ :: _) _ _); refine Stop.mk ?_) | ((with_reducible show wpList _ _ _ (⟨_, .build _ _, _, _, _, _⟩ :: _) _ _); refine Stop.mk ?_) | ((with_reducible show wpList _ _ _ (⟨_, .buildSlice _ _ _, _, _, _, _⟩ :: _) _ _); refine Stop.mk ?_) | ((with_reducible show wpList _ _ _ (⟨_, .makeSlice _ _ _, _, _, _, _⟩ :: _) _ _); refine Stop.mk ?_) | ((with_reducible show wpList _ _ _ (⟨_, .call ⟨.builtin .append, _, _⟩, _, _, _, _⟩ :: _) _ _); refine Stop.mk ?_) | ((with_reducible show wpList _ _ _ (⟨_, .call ⟨.builtin .copy, _, _⟩, _, _, _, _⟩ :: _) _ _); refine Stop.mk ?_)); refine Stop.go (wl_store (i := 1) (by rfl) hm rfl rfl rfl (by first | rfl | exact idV_eq _) (by first | exact sizeID | (simp only [rowOf_size, idC_size]; exact sizeID)) (by simp only [rowOf_size, idC_size]) (by first | exact rowOf_one _ _ (fun _ _ => rfl) | exact idC_one _ | (exact rowOf_one _ _ (by intro i _; repeat (first | rfl | split)))) ?_); clear hm; intro w5 hm; simp only [Act.put, List.setIfInBounds_toArray, List.set_cons_zero, List.set_cons_succ]; simp only [rowOf_set, List.set_cons_zero, List.set_cons_succ, Value.cells, Act.eval, Array.getD_eq_getD_getElem?, List.getElem?_toArray, List.getElem?_cons_zero, List.getElem?_cons_succ, Option.getD_some] at hm
      go_wp2_with (first | ((with_reducible show wpList _ _ _ (⟨_, .alloc _, _, _, _, _⟩ :: _) _ _); refine Stop.mk ?_) | ((with_reducible show wpList _ _ _ (⟨_, .box _ _, _, _, _, _⟩ :: _) _ _); refine Stop.mk ?_) | ((with_reducible show wpList _ _ _ (⟨_, .load _ _, _, _, _, _⟩ :: _) _ _); refine Stop.mk ?_) | ((with_reducible show wpList _ _ _ (⟨_, .store _ _ _, _, _, _, _⟩ :: _) _ _); refine Stop.mk ?_) | ((with_reducible show wpList _ _ _ (⟨_, .build _ _, _, _, _, _⟩ :: _) _ _); refine Stop.mk ?_) | ((with_reducible show wpList _ _ _ (⟨_, .buildSlice _ _ _, _, _, _, _⟩ :: _) _ _); refine Stop.mk ?_) | ((with_reducible show wpList _ _ _ (⟨_, .makeSlice _ _ _, _, _, _, _⟩ :: _) _ _); refine Stop.mk ?_) | ((with_reducible show wpList _ _ _ (⟨_, .call ⟨.builtin .append, _, _⟩, _, _, _, _⟩ :: _) _ _); refine Stop.mk ?_) | ((with_reducible show wpList _ _ _ (⟨_, .call ⟨.builtin .copy, _, _⟩, _, _, _, _⟩ :: _) _ _); refine Stop.mk ?_)); refine bodyPost_ret (results_row_tmp (h := rfl) _ _ b1 _ _ _ _ rfl (hm.heap (i := 1) rfl) undID rfl (by first | exact sizeID | (simp only [rowOf_size, idC_size]; exact sizeID))) rfl ?_
      exact ⟨⟨(fun _ => by rw [idV_eq]; rfl), (fun hg => by rw [HT.out] at hg; cases hg)⟩, hm.ext⟩

theorem refParse_c (s : ByteArray) (hs : s.size < 2 ^ 62) (w : World) :
    Calls Try.prog 23 #[.string s] w fun e w' => Parsed s e ∧ Ext w w' := by
  by_cases h : s.size = 40
  · exact refParse_40 s h w
  · have hg : goodB s = false := by
      cases hg : goodB s with
      | false => rfl
      | true => exact absurd ((goodB_iff s).1 hg).1 h
    exact (refParse_size s h hs w).mono fun e w' ⟨he, hx⟩ => ⟨⟨(fun g => by rw [hg] at g; cases g), (fun _ => he)⟩, hx⟩
theorem refParse_good (s : ByteArray) (hg : goodB s = true) (w : World) :
    Calls Try.prog 23 #[.string s] w fun e w' => e = .returned (.tuple #[idV (parseV s), .int .i64 0]) ∧ Ext w w' :=
  (refParse_c s (by have := ((goodB_iff s).1 hg).1; omega) w).mono fun _ _ ⟨h, hx⟩ => ⟨h.1 hg, hx⟩
theorem refParse_bad (s : ByteArray) (hg : goodB s = false) (hs : s.size < 2 ^ 62) (w : World) :
    Calls Try.prog 23 #[.string s] w fun e w' => e = .returned (.tuple #[idV 0, .int .i64 3]) ∧ Ext w w' :=
  (refParse_c s hs w).mono fun _ _ ⟨h, hx⟩ => ⟨h.2 hg, hx⟩

end Go.Proofs.Ythanfkopioehcaa
