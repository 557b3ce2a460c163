/-
  Places (as in chapter 1's texts): their values and their text.
-/
import Derived.Test.YtdlfgoiakkkilaaMem2
import Derived.Test.YtdlfgoiakkkilaaChecked
namespace Go.Proofs.Ytdlfgoiakkkilaa
open Go.RowKit
set_option linter.unusedSimpArgs false
set_option linter.unusedVariables false
set_option maxHeartbeats 400000
set_option maxRecDepth 20000
attribute [local irreducible] wpQuiet wpList wpAnyH Calls

/-- Digit i (the highest is 0) of a number to the base 256, of twenty digits. -/
def dig (a i : Nat) : Nat := a / 256 ^ (19 - i) % 256
def idC (a : Nat) : Array Value := rowOf 20 fun i => .int .u8 ((dig a i : Nat) : Int)
@[irreducible] def idV (a : Nat) : Value := .agg (idC a)
theorem idV_eq (a : Nat) : idV a = .agg (idC a) := by unfold idV; rfl
theorem idC_size (a : Nat) : (idC a).size = 20 := rowOf_size _ _
theorem idC_one (a : Nat) : (idC a).all (·.oneCell') = true := rowOf_one _ _ fun _ _ => rfl
theorem idV_cells (a : Nat) : (idV a).cells = idC a := by rw [idV_eq]; rfl

theorem zeroID : (Try.prog.info? 29).bind (·.zero) = some (.agg (rowOf 20 fun _ => Value.int .u8 0)) := by
  unfold rowOf; kernel_rfl
theorem sizeID : (Try.prog.info? 29).map (·.size) = some 20 := by kernel_rfl
theorem sizeByteI : (Try.prog.info? 5).map (·.size) = some 1 := by kernel_rfl
theorem undID : Try.prog.underlying 29 = some (.array 20 5) := by kernel_rfl
theorem undByteI : Try.prog.underlying 5 = some (.int .u8) := by kernel_rfl

theorem dig_lt (a i : Nat) : dig a i < 256 := Nat.mod_lt _ (by omega)
/-- A digit's letter. -/
@[irreducible] def hexc (n : Nat) : Nat := if n < 10 then 48 + n else 87 + n
/-- Letter j of a place's text. -/
@[irreducible] def letter (a j : Nat) : Nat := hexc (if j % 2 = 0 then dig a (j / 2) / 16 else dig a (j / 2) % 16)
def textB (a : Nat) : ByteArray := bytesB 40 (letter a)

theorem elByteI : El Try.prog 65 5 1 1 (.int .u8 0) := El.mk (by kernel_rfl) (by kernel_rfl)
theorem undStrI : Try.prog.underlying 9 = some .string := by kernel_rfl
theorem undBytesI : Try.prog.underlying 65 = some (.slice 5) := by kernel_rfl

theorem hex_at : ∀ q : Fin 16, (({ data := #[48, 49, 50, 51, 52, 53, 54, 55, 56, 57, 97, 98, 99, 100, 101, 102] } : ByteArray)[q.1]?).map (fun b => b.toNat) = some (hexc q.1) := by
  unfold hexc; decide +kernel

@[go_sem high] theorem run_indexHex (q : Int) (h0 : 0 ≤ q) (h1 : q < 16) (w : World) : (Instr.index 9 (.string { data := #[48, 49, 50, 51, 52, 53, 54, 55, 56, 57, 97, 98, 99, 100, 101, 102] }) (.int .u8 q)).run Try.prog w = .ok (.int .u8 ((hexc q.toNat : Nat) : Int)) w := by
  have h := hex_at ⟨q.toNat, by omega⟩
  obtain ⟨b, hb, hv⟩ := Option.map_eq_some_iff.1 h
  simp only at hb hv
  simp [Instr.index, asIntOf, run_underlying undStrI, h0, hb, hv]

@[go_sem high] theorem run_indexID (a : Nat) (q : Int) (h0 : 0 ≤ q) (h1 : q < 20) (w : World) : (Instr.index 29 (idV a) (.int .i64 q)).run Try.prog w = .ok (.int .u8 ((dig a q.toNat : Nat) : Int)) w := by
  have hs := sizeByteI
  cases hi : Try.prog.info? 5 with
  | none => simp [hi] at hs
  | some it =>
    have hz : it.size = 1 := by simpa [hi] using hs
    have hp : (part 5 (idC a) q.toNat).run Try.prog w = .ok (.int .u8 ((dig a q.toNat : Nat) : Int)) w :=
      run_part_plain (P := Try.prog) w (by kernel_rfl) (rowOf_get _ _ _ (by omega))
    rw [idV_eq]
    simp [Instr.index, asIntOf, run_underlying undID, h0, h1, sizeOf, typeInfo, hi, hz, hp]

theorem text_c (a : Nat) (w : World) :
    Calls Try.prog 71 #[idV a] w fun e w' => e = .returned (.string (textB a)) ∧ Ext w w' := by
  go_enter Try.func71, Try.ntmps71
  have hm := Mem.refl w []
  go_wp2_with (first | ((with_reducible show wpList _ _ _ (⟨_, .alloc _, _, _, _, _⟩ :: _) _ _); refine Stop.mk ?_) | ((with_reducible show wpList _ _ _ (⟨_, .box _ _, _, _, _, _⟩ :: _) _ _); refine Stop.mk ?_) | ((with_reducible show wpList _ _ _ (⟨_, .load _ _, _, _, _, _⟩ :: _) _ _); refine Stop.mk ?_) | ((with_reducible show wpList _ _ _ (⟨_, .store _ _ _, _, _, _, _⟩ :: _) _ _); refine Stop.mk ?_) | ((with_reducible show wpList _ _ _ (⟨_, .build _ _, _, _, _, _⟩ :: _) _ _); refine Stop.mk ?_) | ((with_reducible show wpList _ _ _ (⟨_, .buildSlice _ _ _, _, _, _, _⟩ :: _) _ _); refine Stop.mk ?_) | ((with_reducible show wpList _ _ _ (⟨_, .makeSlice _ _ _, _, _, _, _⟩ :: _) _ _); refine Stop.mk ?_) | ((with_reducible show wpList _ _ _ (⟨_, .call ⟨.builtin .append, _, _⟩, _, _, _, _⟩ :: _) _ _); refine Stop.mk ?_) | ((with_reducible show wpList _ _ _ (⟨_, .call ⟨.builtin .copy, _, _⟩, _, _, _, _⟩ :: _) _ _); refine Stop.mk ?_) | ((with_reducible show wpList _ _ _ (⟨_, .convert 65 9 _, _, _, _, _⟩ :: _) _ _); refine Stop.mk ?_)); refine Stop.go (wl_box (by rfl) rfl (idV_cells a) hm ?_); clear hm; intro b1 w1 hm; simp only [Act.put, List.setIfInBounds_toArray, List.set_cons_zero, List.set_cons_succ]; (try simp only [rowOf_set, List.setIfInBounds_toArray, List.set_cons_zero, List.set_cons_succ, Value.cells, Act.eval, Array.getD_eq_getD_getElem?, List.getElem?_toArray, List.getElem?_cons_zero, List.getElem?_cons_succ, Option.getD_some] at hm)
  go_wp2_with (first | ((with_reducible show wpList _ _ _ (⟨_, .alloc _, _, _, _, _⟩ :: _) _ _); refine Stop.mk ?_) | ((with_reducible show wpList _ _ _ (⟨_, .box _ _, _, _, _, _⟩ :: _) _ _); refine Stop.mk ?_) | ((with_reducible show wpList _ _ _ (⟨_, .load _ _, _, _, _, _⟩ :: _) _ _); refine Stop.mk ?_) | ((with_reducible show wpList _ _ _ (⟨_, .store _ _ _, _, _, _, _⟩ :: _) _ _); refine Stop.mk ?_) | ((with_reducible show wpList _ _ _ (⟨_, .build _ _, _, _, _, _⟩ :: _) _ _); refine Stop.mk ?_) | ((with_reducible show wpList _ _ _ (⟨_, .buildSlice _ _ _, _, _, _, _⟩ :: _) _ _); refine Stop.mk ?_) | ((with_reducible show wpList _ _ _ (⟨_, .makeSlice _ _ _, _, _, _, _⟩ :: _) _ _); refine Stop.mk ?_) | ((with_reducible show wpList _ _ _ (⟨_, .call ⟨.builtin .append, _, _⟩, _, _, _, _⟩ :: _) _ _); refine Stop.mk ?_) | ((with_reducible show wpList _ _ _ (⟨_, .call ⟨.builtin .copy, _, _⟩, _, _, _, _⟩ :: _) _ _); refine Stop.mk ?_) | ((with_reducible show wpList _ _ _ (⟨_, .convert 65 9 _, _, _, _, _⟩ :: _) _ _); refine Stop.mk ?_))
  refine Stop.go (wl_op (by rfl) (fun K hK => ow_make (l := 0) (c := 40) hm elByteI rfl rfl (by decide) (by decide) (by decide) ?_)); clear hm; intro g w2 hm; refine hK _ _ ?_; clear hK K; simp only [Act.put, List.setIfInBounds_toArray, List.set_cons_zero, List.set_cons_succ]
  rw [show madeCells (Value.int .u8 0).cells (40 * 1) = rowOf 40 fun _ => .int .u8 0 from made_one _ _] at hm
  go_wp2_with (first | ((with_reducible show wpList _ _ _ (⟨_, .alloc _, _, _, _, _⟩ :: _) _ _); refine Stop.mk ?_) | ((with_reducible show wpList _ _ _ (⟨_, .box _ _, _, _, _, _⟩ :: _) _ _); refine Stop.mk ?_) | ((with_reducible show wpList _ _ _ (⟨_, .load _ _, _, _, _, _⟩ :: _) _ _); refine Stop.mk ?_) | ((with_reducible show wpList _ _ _ (⟨_, .store _ _ _, _, _, _, _⟩ :: _) _ _); refine Stop.mk ?_) | ((with_reducible show wpList _ _ _ (⟨_, .build _ _, _, _, _, _⟩ :: _) _ _); refine Stop.mk ?_) | ((with_reducible show wpList _ _ _ (⟨_, .buildSlice _ _ _, _, _, _, _⟩ :: _) _ _); refine Stop.mk ?_) | ((with_reducible show wpList _ _ _ (⟨_, .makeSlice _ _ _, _, _, _, _⟩ :: _) _ _); refine Stop.mk ?_) | ((with_reducible show wpList _ _ _ (⟨_, .call ⟨.builtin .append, _, _⟩, _, _, _, _⟩ :: _) _ _); refine Stop.mk ?_) | ((with_reducible show wpList _ _ _ (⟨_, .call ⟨.builtin .copy, _, _⟩, _, _, _, _⟩ :: _) _ _); refine Stop.mk ?_) | ((with_reducible show wpList _ _ _ (⟨_, .convert 65 9 _, _, _, _, _⟩ :: _) _ _); refine Stop.mk ?_)); refine Stop.go (wl_load (i := 1) (by rfl) hm rfl rfl undID rfl (by first | exact sizeID | (simp only [rowOf_size, idC_size]; exact sizeID)) ?_); simp only [Act.put, List.setIfInBounds_toArray, List.set_cons_zero, List.set_cons_succ]; (try simp only [← idV_eq])
  go_wp2_with (first | ((with_reducible show wpList _ _ _ (⟨_, .alloc _, _, _, _, _⟩ :: _) _ _); refine Stop.mk ?_) | ((with_reducible show wpList _ _ _ (⟨_, .box _ _, _, _, _, _⟩ :: _) _ _); refine Stop.mk ?_) | ((with_reducible show wpList _ _ _ (⟨_, .load _ _, _, _, _, _⟩ :: _) _ _); refine Stop.mk ?_) | ((with_reducible show wpList _ _ _ (⟨_, .store _ _ _, _, _, _, _⟩ :: _) _ _); refine Stop.mk ?_) | ((with_reducible show wpList _ _ _ (⟨_, .build _ _, _, _, _, _⟩ :: _) _ _); refine Stop.mk ?_) | ((with_reducible show wpList _ _ _ (⟨_, .buildSlice _ _ _, _, _, _, _⟩ :: _) _ _); refine Stop.mk ?_) | ((with_reducible show wpList _ _ _ (⟨_, .makeSlice _ _ _, _, _, _, _⟩ :: _) _ _); refine Stop.mk ?_) | ((with_reducible show wpList _ _ _ (⟨_, .call ⟨.builtin .append, _, _⟩, _, _, _, _⟩ :: _) _ _); refine Stop.mk ?_) | ((with_reducible show wpList _ _ _ (⟨_, .call ⟨.builtin .copy, _, _⟩, _, _, _, _⟩ :: _) _ _); refine Stop.mk ?_) | ((with_reducible show wpList _ _ _ (⟨_, .convert 65 9 _, _, _, _, _⟩ :: _) _ _); refine Stop.mk ?_))
  go_loopw [3, 8] (fun v i wr => ∃ (k cap g : Nat) (cur : Array Value), k ≤ 20 ∧ i = .int .i64 (k : Int) ∧ v = .slice (some ⟨g, 0, none⟩) (2 * k) cap ∧ 2 * k ≤ cap ∧ cap < 2 ^ 63 ∧ cur.size = cap ∧ Hid (∀ j, j < 2 * k → cur[j]? = some (.int .u8 ((letter a j : Nat) : Int))) ∧
      Mem w [] [(g, .cells cur 5), (b1, .cells (idC a) 29)] wr)
    (fun _ i _ => (20 - intOf i).toNat)
  case atStart => exact ⟨0, 40, g, _, by omega, rfl, rfl, by omega, by omega, rowOf_size _ _, fun j hj => by omega, hm⟩
  case round =>
    clear hm
    obtain ⟨k, cap, g, cur, hk, rfl, rfl, hcap, hcap', hcur, HC, hm⟩ := hrel
    by_cases h0 : k < 20
    · have hk20 : (k : Int) < 20 := by omega
      have hk0 : (0 : Int) ≤ (k : Int) := by omega
      have hd := dig_lt a k
      have q1 : IntKind.u8.wrap (((dig a k : Nat) : Int) / 16) = ((dig a k : Nat) : Int) / 16 := wrap_u8 (by omega) (by omega)
      have q2 : IntKind.u8.wrap (((dig a k : Nat) : Int) % 16) = ((dig a k : Nat) : Int) % 16 := wrap_u8 (by omega) (by omega)
      have q9 : ((dig a k : Nat) : Int).tmod 16 = ((dig a k : Nat) : Int) % 16 := Int.tmod_eq_emod_of_nonneg (by omega)
      have q3 : 0 ≤ ((dig a k : Nat) : Int) / 16 := by omega
      have q4 : ((dig a k : Nat) : Int) / 16 < 16 := by omega
      have q5 : 0 ≤ ((dig a k : Nat) : Int) % 16 := by omega
      have q6 : ((dig a k : Nat) : Int) % 16 < 16 := by omega
      have q7 : (((dig a k : Nat) : Int) / 16).toNat = dig a k / 16 := by omega
      have q8 : (((dig a k : Nat) : Int) % 16).toNat = dig a k % 16 := by omega
      go_wp2_with (first | ((with_reducible show wpList _ _ _ (⟨_, .alloc _, _, _, _, _⟩ :: _) _ _); refine Stop.mk ?_) | ((with_reducible show wpList _ _ _ (⟨_, .box _ _, _, _, _, _⟩ :: _) _ _); refine Stop.mk ?_) | ((with_reducible show wpList _ _ _ (⟨_, .load _ _, _, _, _, _⟩ :: _) _ _); refine Stop.mk ?_) | ((with_reducible show wpList _ _ _ (⟨_, .store _ _ _, _, _, _, _⟩ :: _) _ _); refine Stop.mk ?_) | ((with_reducible show wpList _ _ _ (⟨_, .build _ _, _, _, _, _⟩ :: _) _ _); refine Stop.mk ?_) | ((with_reducible show wpList _ _ _ (⟨_, .buildSlice _ _ _, _, _, _, _⟩ :: _) _ _); refine Stop.mk ?_) | ((with_reducible show wpList _ _ _ (⟨_, .makeSlice _ _ _, _, _, _, _⟩ :: _) _ _); refine Stop.mk ?_) | ((with_reducible show wpList _ _ _ (⟨_, .call ⟨.builtin .append, _, _⟩, _, _, _, _⟩ :: _) _ _); refine Stop.mk ?_) | ((with_reducible show wpList _ _ _ (⟨_, .call ⟨.builtin .copy, _, _⟩, _, _, _, _⟩ :: _) _ _); refine Stop.mk ?_) | ((with_reducible show wpList _ _ _ (⟨_, .convert 65 9 _, _, _, _, _⟩ :: _) _ _); refine Stop.mk ?_))
      refine wp_region_held_drew (by kernel_rfl) (hm.erase 0).drew (fun hS => ?_); replace hm := hm.drew
      refine wh_any (i := 0) rfl (by kernel_rfl) (by kernel_rfl) (by kernel_rfl) (fun _ _ _ _ h => h) (by rfl) hS ?_; apply Exists.intro; refine ⟨?_, ?_⟩; · (intro w hC; go_simp; try with_reducible rfl)
      simp only [List.getElem_toArray, List.getElem_cons_zero, List.getElem_cons_succ, Act.put, List.setIfInBounds_toArray, List.set_cons_zero, List.set_cons_succ]
      refine wh_any (i := 1) rfl (by kernel_rfl) (by kernel_rfl) (by kernel_rfl) (fun _ _ _ _ h => h) (by rfl) hS ?_; apply Exists.intro; refine ⟨?_, ?_⟩; · (intro w hC; go_simp; try with_reducible rfl)
      simp only [List.getElem_toArray, List.getElem_cons_zero, List.getElem_cons_succ, Act.put, List.setIfInBounds_toArray, List.set_cons_zero, List.set_cons_succ]
      refine wh_any (i := 2) rfl (by kernel_rfl) (by kernel_rfl) (by kernel_rfl) (fun _ _ _ _ h => h) (by rfl) hS ?_; apply Exists.intro; refine ⟨?_, ?_⟩; · (intro w hC; go_simp; try with_reducible rfl)
      simp only [List.getElem_toArray, List.getElem_cons_zero, List.getElem_cons_succ, Act.put, List.setIfInBounds_toArray, List.set_cons_zero, List.set_cons_succ]
      refine wh_any (i := 3) rfl (by kernel_rfl) (by kernel_rfl) (by kernel_rfl) (fun _ _ _ _ h => h) (by rfl) hS ?_; apply Exists.intro; refine ⟨?_, ?_⟩; · (intro w hC; go_simp; try with_reducible rfl)
      simp only [List.getElem_toArray, List.getElem_cons_zero, List.getElem_cons_succ, Act.put, List.setIfInBounds_toArray, List.set_cons_zero, List.set_cons_succ]
      refine wh_any (i := 4) rfl (by kernel_rfl) (by kernel_rfl) (by kernel_rfl) (fun _ _ _ _ h => h) (by rfl) hS ?_; apply Exists.intro; refine ⟨?_, ?_⟩; · (intro w hC; go_simp; try with_reducible rfl)
      simp only [List.getElem_toArray, List.getElem_cons_zero, List.getElem_cons_succ, Act.put, List.setIfInBounds_toArray, List.set_cons_zero, List.set_cons_succ]
      refine wh_any (i := 5) rfl (by kernel_rfl) (by kernel_rfl) (by kernel_rfl) (fun _ _ _ _ h => h) (by rfl) hS ?_; apply Exists.intro; refine ⟨?_, ?_⟩; · (intro w hC; go_simp; try with_reducible rfl)
      simp only [List.getElem_toArray, List.getElem_cons_zero, List.getElem_cons_succ, Act.put, List.setIfInBounds_toArray, List.set_cons_zero, List.set_cons_succ]
      refine wh_any (i := 6) rfl (by kernel_rfl) (by kernel_rfl) (by kernel_rfl) (fun _ _ _ _ h => h) (by rfl) hS ?_; apply Exists.intro; refine ⟨?_, ?_⟩; · (intro w hC; go_simp; try with_reducible rfl)
      simp only [List.getElem_toArray, List.getElem_cons_zero, List.getElem_cons_succ, Act.put, List.setIfInBounds_toArray, List.set_cons_zero, List.set_cons_succ]
      refine wh_one (i := 7) (by kernel_rfl) rfl (by rfl) (fun K' hK => ?_)
      refine ow_buildSlice (cells := #[.int .u8 ((hexc (dig a k / 16) : Nat) : Int), .int .u8 ((hexc (dig a k % 16) : Nat) : Int)]) hm elByteI (by decide) (by decide) (by simp [Act.eval]) (fill_two _ _ _ rfl rfl) ?_
      clear hm hS; intro gn w5 hm; have hS := hm.tail.tail; refine hK.out _ _ hS ?_; clear hK K'; simp only [List.getElem_toArray, List.getElem_cons_zero, List.getElem_cons_succ, Act.put, List.setIfInBounds_toArray, List.set_cons_zero, List.set_cons_succ]
      refine wh_one (i := 8) (by kernel_rfl) rfl (by rfl) (fun K' hK => ?_)
      have hnw := news_of (i := 0) hm rfl
      refine ow_append (i := 1) (n := 2 * k) (m := 2) (c := 2) (news := [.int .u8 ((hexc (dig a k / 16) : Nat) : Int), .int .u8 ((hexc (dig a k % 16) : Nat) : Int)]) (ad := ⟨gn, 0, none⟩) (sz := 1) (cur := cur) (g := g) hm elByteI ?h1 ?h2 ?h3 ?h4 hcap ?h5 ?h6 hnw ?h7 ?h8 ?h9 ?h10
      case h1 => rfl
      case h2 => rfl
      case h3 => rfl
      case h4 => rfl
      case h5 => omega
      case h6 => rfl
      case h7 => simp [Value.oneCell']
      case h8 => omega
      case h9 => omega
      clear hm hS; intro g' cap' cur' w6 hm p1 p2 p3 p4 p5 p6; have hS := hm.tail.tail; refine hK.out _ _ hS ?_; clear hK K'; simp only [List.getElem_toArray, List.getElem_cons_zero, List.getElem_cons_succ, Act.put, List.setIfInBounds_toArray, List.set_cons_zero, List.set_cons_succ]
      refine wh_any (i := 9) rfl (by kernel_rfl) (by kernel_rfl) (by kernel_rfl) (fun _ _ _ _ h => h) (by rfl) hS ?_; apply Exists.intro; refine ⟨?_, ?_⟩; · (intro w hC; go_simp; try with_reducible rfl)
      simp only [List.getElem_toArray, List.getElem_cons_zero, List.getElem_cons_succ, Act.put, List.setIfInBounds_toArray, List.set_cons_zero, List.set_cons_succ]
      refine wpAnyH_done (by kernel_rfl) ?_ _
      replace hm := hm.tail
      have HN := hid (show ∀ j, j < 2 * (k + 1) → cur'[j]? = some (.int .u8 ((letter a j : Nat) : Int)) from fun j hj => by
        by_cases h1 : j < 2 * k
        · rw [p4 j (by omega)]; exact HC.out j h1
        · by_cases h2 : j = 2 * k
          · have := p5 0 (by omega)
            simp only [Nat.mul_one, Nat.add_zero] at this
            rw [h2, this]
            simp [letter]
          · have := p5 1 (by omega)
            simp only [Nat.mul_one] at this
            rw [show j = 2 * k + 1 from by omega, this]
            simp [letter]
            rw [show (2 * k + 1) / 2 = k from by omega])
      clear p4 p5 p6
      have p2' := p2 hcap'
      clear p2
      go_wp2_with (first | ((with_reducible show wpList _ _ _ (⟨_, .alloc _, _, _, _, _⟩ :: _) _ _); refine Stop.mk ?_) | ((with_reducible show wpList _ _ _ (⟨_, .box _ _, _, _, _, _⟩ :: _) _ _); refine Stop.mk ?_) | ((with_reducible show wpList _ _ _ (⟨_, .load _ _, _, _, _, _⟩ :: _) _ _); refine Stop.mk ?_) | ((with_reducible show wpList _ _ _ (⟨_, .store _ _ _, _, _, _, _⟩ :: _) _ _); refine Stop.mk ?_) | ((with_reducible show wpList _ _ _ (⟨_, .build _ _, _, _, _, _⟩ :: _) _ _); refine Stop.mk ?_) | ((with_reducible show wpList _ _ _ (⟨_, .buildSlice _ _ _, _, _, _, _⟩ :: _) _ _); refine Stop.mk ?_) | ((with_reducible show wpList _ _ _ (⟨_, .makeSlice _ _ _, _, _, _, _⟩ :: _) _ _); refine Stop.mk ?_) | ((with_reducible show wpList _ _ _ (⟨_, .call ⟨.builtin .append, _, _⟩, _, _, _, _⟩ :: _) _ _); refine Stop.mk ?_) | ((with_reducible show wpList _ _ _ (⟨_, .call ⟨.builtin .copy, _, _⟩, _, _, _, _⟩ :: _) _ _); refine Stop.mk ?_) | ((with_reducible show wpList _ _ _ (⟨_, .convert 65 9 _, _, _, _, _⟩ :: _) _ _); refine Stop.mk ?_))
      go_roundw
      case rel => exact ⟨k + 1, cap', g', cur', by omega, by go_num, by rw [Nat.mul_add], by omega, p2', by omega, HN, hm⟩
      case measure => simp [intOf]; omega
    · obtain rfl : k = 20 := by omega
      go_wp2_with (first | ((with_reducible show wpList _ _ _ (⟨_, .alloc _, _, _, _, _⟩ :: _) _ _); refine Stop.mk ?_) | ((with_reducible show wpList _ _ _ (⟨_, .box _ _, _, _, _, _⟩ :: _) _ _); refine Stop.mk ?_) | ((with_reducible show wpList _ _ _ (⟨_, .load _ _, _, _, _, _⟩ :: _) _ _); refine Stop.mk ?_) | ((with_reducible show wpList _ _ _ (⟨_, .store _ _ _, _, _, _, _⟩ :: _) _ _); refine Stop.mk ?_) | ((with_reducible show wpList _ _ _ (⟨_, .build _ _, _, _, _, _⟩ :: _) _ _); refine Stop.mk ?_) | ((with_reducible show wpList _ _ _ (⟨_, .buildSlice _ _ _, _, _, _, _⟩ :: _) _ _); refine Stop.mk ?_) | ((with_reducible show wpList _ _ _ (⟨_, .makeSlice _ _ _, _, _, _, _⟩ :: _) _ _); refine Stop.mk ?_) | ((with_reducible show wpList _ _ _ (⟨_, .call ⟨.builtin .append, _, _⟩, _, _, _, _⟩ :: _) _ _); refine Stop.mk ?_) | ((with_reducible show wpList _ _ _ (⟨_, .call ⟨.builtin .copy, _, _⟩, _, _, _, _⟩ :: _) _ _); refine Stop.mk ?_) | ((with_reducible show wpList _ _ _ (⟨_, .convert 65 9 _, _, _, _, _⟩ :: _) _ _); refine Stop.mk ?_))
      have hrs := run_toString (P := Try.prog) undBytesI undByteI undStrI hm (i := 0) (off := 0) (n := 40) (cap := cap) rfl (letter a) (fun j hj => by rw [Nat.zero_add]; exact HC.out j hj)
      refine Stop.go ?_
      clear hcap hcap' hcur HC
      go_wp2
      go_ret
      exact ⟨rfl, hm.ext⟩
end Go.Proofs.Ytdlfgoiakkkilaa
