/-
  Contracts of the functions on places, continued: the document's Text.
-/
import Derived.Test.YthanfkopioehcaaIdH
namespace Go.Proofs.Ythanfkopioehcaa
open Go.RowKit
set_option linter.unusedSimpArgs false
set_option linter.unusedVariables false
set_option maxHeartbeats 1000000
set_option maxRecDepth 20000
attribute [local irreducible] wpQuiet wpList wpAnyH Calls

/-! ### The document's Text -/
/-- One letter of the digits. -/
@[irreducible] def oneB (c : Nat) : ByteArray := bytesB 1 fun _ => c
theorem oneB_size (c : Nat) : (oneB c).size = 1 := by unfold oneB; exact bytesB_size _ _
theorem bytesB_push (n : Nat) (f : Nat → Nat) : bytesB n f ++ oneB (f n) = bytesB (n + 1) f := by
  unfold oneB
  apply ByteArray.ext
  apply Array.toList_inj.1
  rw [ByteArray.data_append, Array.toList_append, bytesB_toList, bytesB_toList, bytesB_toList, @List.range_succ n, List.map_append]
  rfl
theorem hex_one : ∀ x, x < 16 → (ByteArray.mk #[48, 49, 50, 51, 52, 53, 54, 55, 56, 57, 97, 98, 99, 100, 101, 102]).extract x (x + 1) = oneB (hexc x) := by
  unfold oneB bytesB hexc
  decide +kernel
theorem slice_hex (x : Nat) (hx : x < 16) (w : World) :
    (Instr.slice 9 (.string { data := #[48, 49, 50, 51, 52, 53, 54, 55, 56, 57, 97, 98, 99, 100, 101, 102] }) (some (.int .i64 (x : Int))) (some (.int .i64 ((x : Int) + 1))) none).run Try.prog w = .ok (.string (oneB (hexc x))) w := by
  have h16 : ((ByteArray.mk #[48, 49, 50, 51, 52, 53, 54, 55, 56, 57, 97, 98, 99, 100, 101, 102]).size : Int) = 16 := rfl
  rw [run_slice_string_if _ _ _ _ _ _ _ undStr, if_pos (by rw [h16]; omega), if_pos (by omega)]
  rw [show ((x : Int) + 1).toNat = x + 1 from by omega, Int.toNat_natCast, hex_one x hx]
attribute [local go_sem] bytesB_size oneB_size
theorem refText_c (a : Nat) (w : World) :
    Calls Try.prog 25 #[idV a] w fun e w' => e = .returned (.string (textB a)) ∧ Ext w w' := by
  go_enter Try.func25, Try.ntmps25
  have hm := Mem.refl w []
  go_wp2_with (first | ((with_reducible show wpList _ _ _ (⟨_, .alloc _, _, _, _, _⟩ :: _) _ _); refine Stop.mk ?_) | ((with_reducible show wpList _ _ _ (⟨_, .box _ _, _, _, _, _⟩ :: _) _ _); refine Stop.mk ?_) | ((with_reducible show wpList _ _ _ (⟨_, .load _ _, _, _, _, _⟩ :: _) _ _); refine Stop.mk ?_) | ((with_reducible show wpList _ _ _ (⟨_, .store _ _ _, _, _, _, _⟩ :: _) _ _); refine Stop.mk ?_) | ((with_reducible show wpList _ _ _ (⟨_, .build _ _, _, _, _, _⟩ :: _) _ _); refine Stop.mk ?_) | ((with_reducible show wpList _ _ _ (⟨_, .buildSlice _ _ _, _, _, _, _⟩ :: _) _ _); refine Stop.mk ?_) | ((with_reducible show wpList _ _ _ (⟨_, .makeSlice _ _ _, _, _, _, _⟩ :: _) _ _); refine Stop.mk ?_) | ((with_reducible show wpList _ _ _ (⟨_, .call ⟨.builtin .append, _, _⟩, _, _, _, _⟩ :: _) _ _); refine Stop.mk ?_) | ((with_reducible show wpList _ _ _ (⟨_, .call ⟨.builtin .copy, _, _⟩, _, _, _, _⟩ :: _) _ _); refine Stop.mk ?_)); refine Stop.go (wl_box (by rfl) rfl (idV_cells a) hm ?_); clear hm; intro b1 w1 hm; simp only [Act.put, List.setIfInBounds_toArray, List.set_cons_zero, List.set_cons_succ]; (try simp only [rowOf_set, List.set_cons_zero, List.set_cons_succ, Value.cells, Act.eval, Array.getD_eq_getD_getElem?, List.getElem?_toArray, List.getElem?_cons_zero, List.getElem?_cons_succ, Option.getD_some] at hm)
  go_wp2_with (first | ((with_reducible show wpList _ _ _ (⟨_, .alloc _, _, _, _, _⟩ :: _) _ _); refine Stop.mk ?_) | ((with_reducible show wpList _ _ _ (⟨_, .box _ _, _, _, _, _⟩ :: _) _ _); refine Stop.mk ?_) | ((with_reducible show wpList _ _ _ (⟨_, .load _ _, _, _, _, _⟩ :: _) _ _); refine Stop.mk ?_) | ((with_reducible show wpList _ _ _ (⟨_, .store _ _ _, _, _, _, _⟩ :: _) _ _); refine Stop.mk ?_) | ((with_reducible show wpList _ _ _ (⟨_, .build _ _, _, _, _, _⟩ :: _) _ _); refine Stop.mk ?_) | ((with_reducible show wpList _ _ _ (⟨_, .buildSlice _ _ _, _, _, _, _⟩ :: _) _ _); refine Stop.mk ?_) | ((with_reducible show wpList _ _ _ (⟨_, .makeSlice _ _ _, _, _, _, _⟩ :: _) _ _); refine Stop.mk ?_) | ((with_reducible show wpList _ _ _ (⟨_, .call ⟨.builtin .append, _, _⟩, _, _, _, _⟩ :: _) _ _); refine Stop.mk ?_) | ((with_reducible show wpList _ _ _ (⟨_, .call ⟨.builtin .copy, _, _⟩, _, _, _, _⟩ :: _) _ _); refine Stop.mk ?_))
  go_loopw [4, 5] (fun v i wr => ∃ k : Nat, k ≤ 20 ∧ i = .int .i64 (k : Int) ∧ v = .string (bytesB (2 * k) (letter a)) ∧ Mem w [] [(b1, .cells (idC a) 23)] wr)
    (fun _ i _ => (20 - intOf i).toNat)
  case atStart => exact ⟨0, by omega, rfl, by unfold bytesB; rfl, hm⟩
  case round =>
    clear hm
    obtain ⟨k, hk, rfl, rfl, hm⟩ := hrel
    by_cases h0 : k < 20
    · have hk20 : (k : Int) < 20 := by omega
      have hk0 : (0 : Int) ≤ (k : Int) := by omega
      have hd := dig_lt a k
      obtain ⟨x, hx⟩ : ∃ x, dig a k / 16 = x := ⟨_, rfl⟩
      obtain ⟨y, hy⟩ : ∃ y, dig a k % 16 = y := ⟨_, rfl⟩
      have hx16 : x < 16 := by omega
      have hy16 : y < 16 := by omega
      have d1 : IntKind.i64.wrap (x : Int) = (x : Int) := wrap_i64 (by omega) (by omega)
      have d2 : ((dig a k : Nat) : Int) % 16 = (y : Int) := by omega
      have d3 : ((dig a k : Nat) : Int) / 16 = (x : Int) := by omega
      have hl1 : letter a (2 * k) = hexc x := by unfold letter; rw [if_pos (by omega), show 2 * k / 2 = k from by omega, hx]
      have hl2 : letter a (2 * k + 1) = hexc y := by unfold letter; rw [if_neg (by omega), show (2 * k + 1) / 2 = k from by omega, hy]
      have HN := hid (show bytesB (2 * k) (letter a) ++ oneB (hexc x) ++ oneB (hexc y) = bytesB (2 * (k + 1)) (letter a) from by
        rw [← hl1, bytesB_push, ← hl2, bytesB_push]; rfl)
      clear hx hy hl1 hl2
      have r1 : IntKind.i64.wrap ((x : Int) + 1) = (x : Int) + 1 := wrap_i64 (by omega) (by omega)
      have r2 : IntKind.i64.wrap ((y : Int) + 1) = (y : Int) + 1 := wrap_i64 (by omega) (by omega)
      have s1 := slice_hex x hx16
      have s2 := slice_hex y hy16
      have g1 : ¬ 9223372036854775807 < 2 * k + 1 := by omega
      have g2 : ¬ 9223372036854775807 < 2 * k + 1 + 1 := by omega
      go_wp2_with (first | ((with_reducible show wpList _ _ _ (⟨_, .alloc _, _, _, _, _⟩ :: _) _ _); refine Stop.mk ?_) | ((with_reducible show wpList _ _ _ (⟨_, .box _ _, _, _, _, _⟩ :: _) _ _); refine Stop.mk ?_) | ((with_reducible show wpList _ _ _ (⟨_, .load _ _, _, _, _, _⟩ :: _) _ _); refine Stop.mk ?_) | ((with_reducible show wpList _ _ _ (⟨_, .store _ _ _, _, _, _, _⟩ :: _) _ _); refine Stop.mk ?_) | ((with_reducible show wpList _ _ _ (⟨_, .build _ _, _, _, _, _⟩ :: _) _ _); refine Stop.mk ?_) | ((with_reducible show wpList _ _ _ (⟨_, .buildSlice _ _ _, _, _, _, _⟩ :: _) _ _); refine Stop.mk ?_) | ((with_reducible show wpList _ _ _ (⟨_, .makeSlice _ _ _, _, _, _, _⟩ :: _) _ _); refine Stop.mk ?_) | ((with_reducible show wpList _ _ _ (⟨_, .call ⟨.builtin .append, _, _⟩, _, _, _, _⟩ :: _) _ _); refine Stop.mk ?_) | ((with_reducible show wpList _ _ _ (⟨_, .call ⟨.builtin .copy, _, _⟩, _, _, _, _⟩ :: _) _ _); refine Stop.mk ?_)); refine Stop.go (wl_loadCell (i := 0) (by rfl) hm rfl rfl (rowOf_get _ _ k (by omega)) undByte rfl ?_); simp only [Act.put, List.setIfInBounds_toArray, List.set_cons_zero, List.set_cons_succ]
      go_wp2_with (first | ((with_reducible show wpList _ _ _ (⟨_, .alloc _, _, _, _, _⟩ :: _) _ _); refine Stop.mk ?_) | ((with_reducible show wpList _ _ _ (⟨_, .box _ _, _, _, _, _⟩ :: _) _ _); refine Stop.mk ?_) | ((with_reducible show wpList _ _ _ (⟨_, .load _ _, _, _, _, _⟩ :: _) _ _); refine Stop.mk ?_) | ((with_reducible show wpList _ _ _ (⟨_, .store _ _ _, _, _, _, _⟩ :: _) _ _); refine Stop.mk ?_) | ((with_reducible show wpList _ _ _ (⟨_, .build _ _, _, _, _, _⟩ :: _) _ _); refine Stop.mk ?_) | ((with_reducible show wpList _ _ _ (⟨_, .buildSlice _ _ _, _, _, _, _⟩ :: _) _ _); refine Stop.mk ?_) | ((with_reducible show wpList _ _ _ (⟨_, .makeSlice _ _ _, _, _, _, _⟩ :: _) _ _); refine Stop.mk ?_) | ((with_reducible show wpList _ _ _ (⟨_, .call ⟨.builtin .append, _, _⟩, _, _, _, _⟩ :: _) _ _); refine Stop.mk ?_) | ((with_reducible show wpList _ _ _ (⟨_, .call ⟨.builtin .copy, _, _⟩, _, _, _, _⟩ :: _) _ _); refine Stop.mk ?_)); refine Stop.go (wl_loadCell (i := 0) (by rfl) hm rfl rfl (rowOf_get _ _ k (by omega)) undByte rfl ?_); simp only [Act.put, List.setIfInBounds_toArray, List.set_cons_zero, List.set_cons_succ]
      go_wp2_with (first | ((with_reducible show wpList _ _ _ (⟨_, .alloc _, _, _, _, _⟩ :: _) _ _); refine Stop.mk ?_) | ((with_reducible show wpList _ _ _ (⟨_, .box _ _, _, _, _, _⟩ :: _) _ _); refine Stop.mk ?_) | ((with_reducible show wpList _ _ _ (⟨_, .load _ _, _, _, _, _⟩ :: _) _ _); refine Stop.mk ?_) | ((with_reducible show wpList _ _ _ (⟨_, .store _ _ _, _, _, _, _⟩ :: _) _ _); refine Stop.mk ?_) | ((with_reducible show wpList _ _ _ (⟨_, .build _ _, _, _, _, _⟩ :: _) _ _); refine Stop.mk ?_) | ((with_reducible show wpList _ _ _ (⟨_, .buildSlice _ _ _, _, _, _, _⟩ :: _) _ _); refine Stop.mk ?_) | ((with_reducible show wpList _ _ _ (⟨_, .makeSlice _ _ _, _, _, _, _⟩ :: _) _ _); refine Stop.mk ?_) | ((with_reducible show wpList _ _ _ (⟨_, .call ⟨.builtin .append, _, _⟩, _, _, _, _⟩ :: _) _ _); refine Stop.mk ?_) | ((with_reducible show wpList _ _ _ (⟨_, .call ⟨.builtin .copy, _, _⟩, _, _, _, _⟩ :: _) _ _); refine Stop.mk ?_)); refine wp_quiet_mem (by kernel_rfl) (by kernel_rfl) hm ?_
      refine wq_any (by rfl) ?_; apply Exists.intro; refine ⟨?_, ?_⟩; · (intro w hC; go_simp; try with_reducible rfl)
      simp only [Act.put, List.setIfInBounds_toArray, List.set_cons_zero, List.set_cons_succ]
      refine wq_any (by rfl) ?_; apply Exists.intro; refine ⟨?_, ?_⟩; · (intro w hC; go_simp; try with_reducible rfl)
      simp only [Act.put, List.setIfInBounds_toArray, List.set_cons_zero, List.set_cons_succ]
      refine wq_any (by rfl) ?_; apply Exists.intro; refine ⟨?_, ?_⟩; · (intro w hC; go_simp; try with_reducible rfl)
      simp only [Act.put, List.setIfInBounds_toArray, List.set_cons_zero, List.set_cons_succ]
      refine wq_any (by rfl) ?_; apply Exists.intro; refine ⟨?_, ?_⟩; · (intro w hC; go_simp; try with_reducible rfl)
      simp only [Act.put, List.setIfInBounds_toArray, List.set_cons_zero, List.set_cons_succ]
      refine wq_any (by rfl) ?_; apply Exists.intro; refine ⟨?_, ?_⟩; · (intro w hC; go_simp; try with_reducible rfl)
      simp only [Act.put, List.setIfInBounds_toArray, List.set_cons_zero, List.set_cons_succ]
      refine wq_any (by rfl) ?_; apply Exists.intro; refine ⟨?_, ?_⟩; · (intro w hC; go_simp; try with_reducible rfl)
      simp only [Act.put, List.setIfInBounds_toArray, List.set_cons_zero, List.set_cons_succ]
      refine wq_any (by rfl) ?_; apply Exists.intro; refine ⟨?_, ?_⟩; · (intro w hC; go_simp; try with_reducible rfl)
      simp only [Act.put, List.setIfInBounds_toArray, List.set_cons_zero, List.set_cons_succ]
      refine wq_any (by rfl) ?_; apply Exists.intro; refine ⟨?_, ?_⟩; · (intro w hC; go_simp; try with_reducible rfl)
      simp only [Act.put, List.setIfInBounds_toArray, List.set_cons_zero, List.set_cons_succ]
      refine wq_any (by rfl) ?_; apply Exists.intro; refine ⟨?_, ?_⟩; · (intro w hC; go_simp; try with_reducible rfl)
      simp only [Act.put, List.setIfInBounds_toArray, List.set_cons_zero, List.set_cons_succ]
      refine wq_any (by rfl) ?_; apply Exists.intro; refine ⟨?_, ?_⟩; · (intro w hC; go_simp; try with_reducible rfl)
      simp only [Act.put, List.setIfInBounds_toArray, List.set_cons_zero, List.set_cons_succ]
      refine wq_any (by rfl) ?_; apply Exists.intro; refine ⟨?_, ?_⟩; · (intro w hC; go_simp; try with_reducible rfl)
      simp only [Act.put, List.setIfInBounds_toArray, List.set_cons_zero, List.set_cons_succ]
      refine wq_any (by rfl) ?_; apply Exists.intro; refine ⟨?_, ?_⟩; · (intro w hC; go_simp; try with_reducible rfl)
      simp only [Act.put, List.setIfInBounds_toArray, List.set_cons_zero, List.set_cons_succ]
      refine wq_any (by rfl) ?_; apply Exists.intro; refine ⟨?_, ?_⟩; · (intro w hC; go_simp; try with_reducible rfl)
      simp only [Act.put, List.setIfInBounds_toArray, List.set_cons_zero, List.set_cons_succ]
      refine wq_any (by rfl) ?_; apply Exists.intro; refine ⟨?_, ?_⟩; · (intro w hC; go_simp; try with_reducible rfl)
      simp only [Act.put, List.setIfInBounds_toArray, List.set_cons_zero, List.set_cons_succ]
      refine wpQuiet_nil ?_; clear hm; intro w3 hm
      rw [HN.out]
      go_wp2_with (first | ((with_reducible show wpList _ _ _ (⟨_, .alloc _, _, _, _, _⟩ :: _) _ _); refine Stop.mk ?_) | ((with_reducible show wpList _ _ _ (⟨_, .box _ _, _, _, _, _⟩ :: _) _ _); refine Stop.mk ?_) | ((with_reducible show wpList _ _ _ (⟨_, .load _ _, _, _, _, _⟩ :: _) _ _); refine Stop.mk ?_) | ((with_reducible show wpList _ _ _ (⟨_, .store _ _ _, _, _, _, _⟩ :: _) _ _); refine Stop.mk ?_) | ((with_reducible show wpList _ _ _ (⟨_, .build _ _, _, _, _, _⟩ :: _) _ _); refine Stop.mk ?_) | ((with_reducible show wpList _ _ _ (⟨_, .buildSlice _ _ _, _, _, _, _⟩ :: _) _ _); refine Stop.mk ?_) | ((with_reducible show wpList _ _ _ (⟨_, .makeSlice _ _ _, _, _, _, _⟩ :: _) _ _); refine Stop.mk ?_) | ((with_reducible show wpList _ _ _ (⟨_, .call ⟨.builtin .append, _, _⟩, _, _, _, _⟩ :: _) _ _); refine Stop.mk ?_) | ((with_reducible show wpList _ _ _ (⟨_, .call ⟨.builtin .copy, _, _⟩, _, _, _, _⟩ :: _) _ _); refine Stop.mk ?_))
      go_roundw
      case rel => exact ⟨k + 1, by omega, by go_num, rfl, hm⟩
      case measure => simp [intOf]; omega
    · obtain rfl : k = 20 := by omega
      go_wp2_with (first | ((with_reducible show wpList _ _ _ (⟨_, .alloc _, _, _, _, _⟩ :: _) _ _); refine Stop.mk ?_) | ((with_reducible show wpList _ _ _ (⟨_, .box _ _, _, _, _, _⟩ :: _) _ _); refine Stop.mk ?_) | ((with_reducible show wpList _ _ _ (⟨_, .load _ _, _, _, _, _⟩ :: _) _ _); refine Stop.mk ?_) | ((with_reducible show wpList _ _ _ (⟨_, .store _ _ _, _, _, _, _⟩ :: _) _ _); refine Stop.mk ?_) | ((with_reducible show wpList _ _ _ (⟨_, .build _ _, _, _, _, _⟩ :: _) _ _); refine Stop.mk ?_) | ((with_reducible show wpList _ _ _ (⟨_, .buildSlice _ _ _, _, _, _, _⟩ :: _) _ _); refine Stop.mk ?_) | ((with_reducible show wpList _ _ _ (⟨_, .makeSlice _ _ _, _, _, _, _⟩ :: _) _ _); refine Stop.mk ?_) | ((with_reducible show wpList _ _ _ (⟨_, .call ⟨.builtin .append, _, _⟩, _, _, _, _⟩ :: _) _ _); refine Stop.mk ?_) | ((with_reducible show wpList _ _ _ (⟨_, .call ⟨.builtin .copy, _, _⟩, _, _, _, _⟩ :: _) _ _); refine Stop.mk ?_))
      go_ret
      exact ⟨rfl, hm.ext⟩
end Go.Proofs.Ythanfkopioehcaa
