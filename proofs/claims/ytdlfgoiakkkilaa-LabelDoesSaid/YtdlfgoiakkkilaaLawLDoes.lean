/- For every label l and number the call LabelDoes(l, bit) returns true and leaves its arguments as they were: a label is right, or not, and has just this child, parent, sibling, span, next key, text and place, or is refused. No condition. -/
import Derived.Test.YtdlfgoiakkkilaaLabN
import Derived.Test.YtdlfgoiakkkilaaLabY
import Derived.Test.YtdlfgoiakkkilaaLabW
import Derived.Test.YtdlfgoiakkkilaaOpenL
import Derived.Test.YtdlfgoiakkkilaaOpenS
import Derived.Test.YtdlfgoiakkkilaaRows
namespace Go.Proofs.Ytdlfgoiakkkilaa.lawLDoes
open Go.ChangeShapes Go.WideShapes Go.ChangeAt Go.RowKit
set_option linter.unusedSimpArgs false
set_option linter.unusedVariables false
set_option maxHeartbeats 4000000
set_option maxRecDepth 20000
attribute [local irreducible] wpQuiet wpList wpAnyH Calls

theorem eqLab_refl (l : Int) (b : Nat) : eqLab l b l b = true := by simp [eqLab]
/-- The walk, whatever the answers are: the program's and the document's are the same. -/
theorem walk_same (len : Int) (b : Nat) (bit : Int) (cl : Int) (cb : Nat) (ce : Int) (pl : Int) (pb : Nat) (pe : Int) (sl : Int) (sb : Nat) (se : Int) (lo hi he : Int) (nk : Int) (no : Bool) (t : ByteArray) (te : Int) (N : Nat) (ae : Int) (r : Bool)
    (c1 : Says 20 #[labV len b, .int .i64 bit] (.tuple #[labV cl cb, .int .i64 ce])) (c2 : Says 21 #[labV len b, .int .i64 bit] (.tuple #[labV cl cb, .int .i64 ce]))
    (p1 : Says 22 #[labV len b] (.tuple #[labV pl pb, .int .i64 pe])) (p2 : Says 23 #[labV len b] (.tuple #[labV pl pb, .int .i64 pe]))
    (s1 : Says 24 #[labV len b] (.tuple #[labV sl sb, .int .i64 se])) (s2 : Says 25 #[labV len b] (.tuple #[labV sl sb, .int .i64 se]))
    (h1 : Says 26 #[labV len b] (.tuple #[.int .u64 lo, .int .u64 hi, .int .i64 he])) (h2 : Says 27 #[labV len b] (.tuple #[.int .u64 lo, .int .u64 hi, .int .i64 he]))
    (n1 : Says 28 #[labV len b] (.tuple #[.int .u64 nk, .bool no])) (n2 : Says 29 #[labV len b] (.tuple #[.int .u64 nk, .bool no]))
    (t1 : Says 14 #[labV len b] (.tuple #[.string t, .int .i64 te])) (t2 : Says 30 #[labV len b] (.tuple #[.string t, .int .i64 te]))
    (a1 : Says 15 #[labV len b] (.tuple #[idV N, .int .i64 ae])) (a2 : Says 31 #[labV len b] (.tuple #[idV N, .int .i64 ae]))
    (i1 : Says 17 #[labV len b] (.bool r)) (i2 : Says 32 #[labV len b] (.bool r)) (w : World) :
    Calls Try.prog 4 #[labV len b, .int .i64 bit] w fun e w' => e = .returned (.bool true) ∧ Ext w w' := by
  have q1 := eqLab_refl cl cb
  have q2 := eqLab_refl pl pb
  have q3 := eqLab_refl sl sb
  go_enter Try.func4, Try.ntmps4
  have hm := Mem.refl w []
  go_wp2_with ((first | refine wpList_skip (by rfl) ?_ | (refine wlL (hm := hm) (hu := by first | exact undLabel | exact undID) (hi := by (try simp only [rowOf_size, idC_size]); first | exact sizeLabel | exact sizeID) (h := ?_); (try simp only [Act.put, k1, k2, k3]); (try simp only [← labV_eq, ← idV_eq])) | refine wlLC (hm := hm) (hu := by first | exact undInt | exact undU64) (h := ?_) | (refine wlS (hm := hm) (hv := (by first | rfl | exact idV_eq _ | exact labV_eq _ _ | exact rectV_eq _ _ _ _)) (hi := by (try simp only [rowOf_size, idC_size]); first | exact sizeLabel | exact sizeID) (hs := by first | (simp only [rowOf_size, idC_size]; done) | rfl) (h1 := by first | rfl | exact idC_one _ | exact rowOf_one _ _ (fun _ _ => rfl) | (simp only [List.size_toArray, List.length_cons, List.all_toArray', List.all_cons, List.all_nil, Value.oneCell', Bool.and_true, Bool.and_self]; done) | (simp [Value.oneCell']; done)) (h := ?_); clear hm; intro w1 hm; (try simp only [rowOf_set, k1, k2, k3, Value.cells, Act.eval, k7, k8, k9, kA, Option.getD_some] at hm)) | (refine wlSC (hm := hm) (hi := by first | exact sizeInt | exact sizeU64) (ho := by first | decide | (simp only [rowOf_size, idC_size]; omega) | (simp; done)) (h := ?_); clear hm; intro w1 hm; (try simp only [rowOf_set, k1, k2, k3, Value.cells, Act.eval, k7, k8, k9, kA, Option.getD_some] at hm)) | (refine wlA (hz := by first | exact zeroLabel | exact zeroID) (hm := hm) (h := ?_); clear hm; intro b1 w1 hm; (try simp only [rowOf_set, k1, k2, k3, Value.cells, Act.eval, k7, k8, k9, kA, Option.getD_some] at hm)) | (refine wl_box (by rfl) rfl (by first | exact idV_cells _ | exact labV_cells _ _ | exact rectV_cells _ _ _ _ | rfl) hm ?_; clear hm; intro b1 w1 hm) | ((with_reducible show wpList _ _ _ (⟨_, .binOp .eql 29 _ _ _, _, _, _, _⟩ :: _) _ _); refine wl_op (by rfl) fun K hK => ?_; refine ow_value (exec_eqlID _ _ _ _ rfl rfl _) (hK _ _ ?_); clear hK K) | (go_at_call 20; refine (c1 _).mono ?_; rintro e w1 ⟨rfl, hx⟩; replace hm := hm.call hx; clear hx) | (go_at_call 21; refine (c2 _).mono ?_; rintro e w1 ⟨rfl, hx⟩; replace hm := hm.call hx; clear hx) | (go_at_call 22; refine (p1 _).mono ?_; rintro e w1 ⟨rfl, hx⟩; replace hm := hm.call hx; clear hx) | (go_at_call 23; refine (p2 _).mono ?_; rintro e w1 ⟨rfl, hx⟩; replace hm := hm.call hx; clear hx) | (go_at_call 24; refine (s1 _).mono ?_; rintro e w1 ⟨rfl, hx⟩; replace hm := hm.call hx; clear hx) | (go_at_call 25; refine (s2 _).mono ?_; rintro e w1 ⟨rfl, hx⟩; replace hm := hm.call hx; clear hx) | (go_at_call 26; refine (h1 _).mono ?_; rintro e w1 ⟨rfl, hx⟩; replace hm := hm.call hx; clear hx) | (go_at_call 27; refine (h2 _).mono ?_; rintro e w1 ⟨rfl, hx⟩; replace hm := hm.call hx; clear hx) | (go_at_call 28; refine (n1 _).mono ?_; rintro e w1 ⟨rfl, hx⟩; replace hm := hm.call hx; clear hx) | (go_at_call 29; refine (n2 _).mono ?_; rintro e w1 ⟨rfl, hx⟩; replace hm := hm.call hx; clear hx) | (go_at_call 14; refine (t1 _).mono ?_; rintro e w1 ⟨rfl, hx⟩; replace hm := hm.call hx; clear hx) | (go_at_call 30; refine (t2 _).mono ?_; rintro e w1 ⟨rfl, hx⟩; replace hm := hm.call hx; clear hx) | (go_at_call 15; refine (a1 _).mono ?_; rintro e w1 ⟨rfl, hx⟩; replace hm := hm.call hx; clear hx) | (go_at_call 31; refine (a2 _).mono ?_; rintro e w1 ⟨rfl, hx⟩; replace hm := hm.call hx; clear hx) | (go_at_call 16; refine (named_c _).mono ?_; rintro e w1 ⟨rfl, hx⟩; replace hm := hm.call hx; clear hx) | (go_at_call 17; refine (i1 _).mono ?_; rintro e w1 ⟨rfl, hx⟩; replace hm := hm.call hx; clear hx) | (go_at_call 32; refine (i2 _).mono ?_; rintro e w1 ⟨rfl, hx⟩; replace hm := hm.call hx; clear hx) | (with_reducible first | refine stBs ?_ | refine stMs ?_ | refine stAp ?_ | refine stCo ?_)); (try simp only [k4, k5, k6, Act.put, k1, k2, k3]))
  go_wp2_with (with_reducible first | refine stAl ?_ | refine stBo ?_ | refine stLo ?_ | refine stSo ?_ | refine stBu ?_ | refine stBs ?_ | refine stMs ?_ | refine stAp ?_ | refine stCo ?_); refine wp_quiet_mem (by kernel_rfl) (by kernel_rfl) hm ?_
  repeat ((first | refine wq_skip (by rfl) ?_ | (refine wqL (hu := by first | exact undLabel | exact undID) (hi := by (try simp only [rowOf_size, idC_size]); first | exact sizeLabel | exact sizeID) (h := ?_); (try simp only [Act.put, k1, k2, k3]); (try simp only [← labV_eq, ← idV_eq])) | refine wqLC (hu := by first | exact undInt | exact undU64) (h := ?_) | ((with_reducible show wpQuiet _ _ _ _ (⟨_, .call _, _, _, _, _⟩ :: _) _); refine wq_ask (by rfl) ?_; apply Exists.intro; refine ⟨?_, ?_⟩; (focus (intro w hC; go_simp; first | (go_at_call 20; exact (c1 _).mono fun e w' h => ⟨h.1, hC.call h.2⟩) | (go_at_call 21; exact (c2 _).mono fun e w' h => ⟨h.1, hC.call h.2⟩) | (go_at_call 22; exact (p1 _).mono fun e w' h => ⟨h.1, hC.call h.2⟩) | (go_at_call 23; exact (p2 _).mono fun e w' h => ⟨h.1, hC.call h.2⟩) | (go_at_call 24; exact (s1 _).mono fun e w' h => ⟨h.1, hC.call h.2⟩) | (go_at_call 25; exact (s2 _).mono fun e w' h => ⟨h.1, hC.call h.2⟩) | (go_at_call 26; exact (h1 _).mono fun e w' h => ⟨h.1, hC.call h.2⟩) | (go_at_call 27; exact (h2 _).mono fun e w' h => ⟨h.1, hC.call h.2⟩) | (go_at_call 28; exact (n1 _).mono fun e w' h => ⟨h.1, hC.call h.2⟩) | (go_at_call 29; exact (n2 _).mono fun e w' h => ⟨h.1, hC.call h.2⟩) | (go_at_call 14; exact (t1 _).mono fun e w' h => ⟨h.1, hC.call h.2⟩) | (go_at_call 30; exact (t2 _).mono fun e w' h => ⟨h.1, hC.call h.2⟩) | (go_at_call 15; exact (a1 _).mono fun e w' h => ⟨h.1, hC.call h.2⟩) | (go_at_call 31; exact (a2 _).mono fun e w' h => ⟨h.1, hC.call h.2⟩) | (go_at_call 16; exact (named_c _).mono fun e w' h => ⟨h.1, hC.call h.2⟩) | (go_at_call 17; exact (i1 _).mono fun e w' h => ⟨h.1, hC.call h.2⟩) | (go_at_call 32; exact (i2 _).mono fun e w' h => ⟨h.1, hC.call h.2⟩)))) | ((with_reducible show wpQuiet _ _ _ _ (⟨_, .binOp .eql 29 _ _ _, _, _, _, _⟩ :: _) _); refine wqS (h1 := fun w _ => exec_eqlID _ _ _ _ rfl rfl _) (h := ?_)) | refine wqS (h := ?_)); (try simp only [k4, k5, k6, Act.put, k1, k2, k3]))
  refine wpQuiet_nil ?_; clear hm; intro w5 hm
  go_wp2_with ((first | refine wpList_skip (by rfl) ?_ | (refine wlL (hm := hm) (hu := by first | exact undLabel | exact undID) (hi := by (try simp only [rowOf_size, idC_size]); first | exact sizeLabel | exact sizeID) (h := ?_); (try simp only [Act.put, k1, k2, k3]); (try simp only [← labV_eq, ← idV_eq])) | refine wlLC (hm := hm) (hu := by first | exact undInt | exact undU64) (h := ?_) | (refine wlS (hm := hm) (hv := (by first | rfl | exact idV_eq _ | exact labV_eq _ _ | exact rectV_eq _ _ _ _)) (hi := by (try simp only [rowOf_size, idC_size]); first | exact sizeLabel | exact sizeID) (hs := by first | (simp only [rowOf_size, idC_size]; done) | rfl) (h1 := by first | rfl | exact idC_one _ | exact rowOf_one _ _ (fun _ _ => rfl) | (simp only [List.size_toArray, List.length_cons, List.all_toArray', List.all_cons, List.all_nil, Value.oneCell', Bool.and_true, Bool.and_self]; done) | (simp [Value.oneCell']; done)) (h := ?_); clear hm; intro w1 hm; (try simp only [rowOf_set, k1, k2, k3, Value.cells, Act.eval, k7, k8, k9, kA, Option.getD_some] at hm)) | (refine wlSC (hm := hm) (hi := by first | exact sizeInt | exact sizeU64) (ho := by first | decide | (simp only [rowOf_size, idC_size]; omega) | (simp; done)) (h := ?_); clear hm; intro w1 hm; (try simp only [rowOf_set, k1, k2, k3, Value.cells, Act.eval, k7, k8, k9, kA, Option.getD_some] at hm)) | (refine wlA (hz := by first | exact zeroLabel | exact zeroID) (hm := hm) (h := ?_); clear hm; intro b1 w1 hm; (try simp only [rowOf_set, k1, k2, k3, Value.cells, Act.eval, k7, k8, k9, kA, Option.getD_some] at hm)) | (refine wl_box (by rfl) rfl (by first | exact idV_cells _ | exact labV_cells _ _ | exact rectV_cells _ _ _ _ | rfl) hm ?_; clear hm; intro b1 w1 hm) | ((with_reducible show wpList _ _ _ (⟨_, .binOp .eql 29 _ _ _, _, _, _, _⟩ :: _) _ _); refine wl_op (by rfl) fun K hK => ?_; refine ow_value (exec_eqlID _ _ _ _ rfl rfl _) (hK _ _ ?_); clear hK K) | (go_at_call 20; refine (c1 _).mono ?_; rintro e w1 ⟨rfl, hx⟩; replace hm := hm.call hx; clear hx) | (go_at_call 21; refine (c2 _).mono ?_; rintro e w1 ⟨rfl, hx⟩; replace hm := hm.call hx; clear hx) | (go_at_call 22; refine (p1 _).mono ?_; rintro e w1 ⟨rfl, hx⟩; replace hm := hm.call hx; clear hx) | (go_at_call 23; refine (p2 _).mono ?_; rintro e w1 ⟨rfl, hx⟩; replace hm := hm.call hx; clear hx) | (go_at_call 24; refine (s1 _).mono ?_; rintro e w1 ⟨rfl, hx⟩; replace hm := hm.call hx; clear hx) | (go_at_call 25; refine (s2 _).mono ?_; rintro e w1 ⟨rfl, hx⟩; replace hm := hm.call hx; clear hx) | (go_at_call 26; refine (h1 _).mono ?_; rintro e w1 ⟨rfl, hx⟩; replace hm := hm.call hx; clear hx) | (go_at_call 27; refine (h2 _).mono ?_; rintro e w1 ⟨rfl, hx⟩; replace hm := hm.call hx; clear hx) | (go_at_call 28; refine (n1 _).mono ?_; rintro e w1 ⟨rfl, hx⟩; replace hm := hm.call hx; clear hx) | (go_at_call 29; refine (n2 _).mono ?_; rintro e w1 ⟨rfl, hx⟩; replace hm := hm.call hx; clear hx) | (go_at_call 14; refine (t1 _).mono ?_; rintro e w1 ⟨rfl, hx⟩; replace hm := hm.call hx; clear hx) | (go_at_call 30; refine (t2 _).mono ?_; rintro e w1 ⟨rfl, hx⟩; replace hm := hm.call hx; clear hx) | (go_at_call 15; refine (a1 _).mono ?_; rintro e w1 ⟨rfl, hx⟩; replace hm := hm.call hx; clear hx) | (go_at_call 31; refine (a2 _).mono ?_; rintro e w1 ⟨rfl, hx⟩; replace hm := hm.call hx; clear hx) | (go_at_call 16; refine (named_c _).mono ?_; rintro e w1 ⟨rfl, hx⟩; replace hm := hm.call hx; clear hx) | (go_at_call 17; refine (i1 _).mono ?_; rintro e w1 ⟨rfl, hx⟩; replace hm := hm.call hx; clear hx) | (go_at_call 32; refine (i2 _).mono ?_; rintro e w1 ⟨rfl, hx⟩; replace hm := hm.call hx; clear hx) | (with_reducible first | refine stBs ?_ | refine stMs ?_ | refine stAp ?_ | refine stCo ?_)); (try simp only [k4, k5, k6, Act.put, k1, k2, k3]))
  go_ret
  exact ⟨rfl, hm.ext⟩
/-- Both children, whatever the bit. -/
theorem child_both (len : Int) (b : Nat) (hb : b < 2 ^ 64) (c : Int) : ∃ (l : Int) (k : Nat) (e : Int), Says 20 #[labV len b, .int .i64 c] (.tuple #[labV l k, .int .i64 e]) ∧ Says 21 #[labV len b, .int .i64 c] (.tuple #[labV l k, .int .i64 e]) := by
  by_cases h : isL len b = false ∨ c < 0 ∨ 1 < c
  · exact ⟨0, 0, 1, child_arg len b c hb h, refChild_arg len b c hb h⟩
  · have hl : isL len b = true := by
      cases hl : isL len b with
      | false => exact (h (Or.inl hl)).elim
      | true => rfl
    obtain ⟨n, rfl, hn, _⟩ := isL_nat len b hl
    by_cases h64 : n = 64
    · subst h64
      exact ⟨0, 0, 5, child_range b c hb hl (by omega) (by omega), refChild_range b c hb hl (by omega) (by omega)⟩
    · obtain rfl | rfl : c = 0 ∨ c = 1 := by omega
      · exact ⟨_, _, 0, child_zero n b hb hl (by omega), refChild_zero n b hb hl (by omega)⟩
      · exact ⟨_, _, 0, child_one n b hb hl (by omega), refChild_one n b hb hl (by omega)⟩
theorem walk_no (len : Int) (b : Nat) (hb : b < 2 ^ 64) (bit : Int) (hl : isL len b = false) (w : World) :
    Calls Try.prog 4 #[labV len b, .int .i64 bit] w fun e w' => e = .returned (.bool true) ∧ Ext w w' := by
  obtain ⟨cl, cb, ce, c1, c2⟩ := child_both len b hb bit
  have i2 := refIs_of len b false hb hl
  have p2 := refParent_no len b i2
  have h2 : Says 27 _ _ := refSpan_false len b hl hb
  have t1 : Says 14 _ _ := text_false len b hl hb
  have t2 := refText_no len b i2
  exact walk_same len b bit cl cb ce 0 0 1 0 0 1 0 0 1 0 false _ 1 0 1 false c1 c2 (parent_arg len b hl hb) p2 (sibling_arg len b hl hb) (refSibling_err len b 1 rfl p2) (span_false len b hl hb) h2 (next_false len b hl hb) (refNext_no len b 0 0 h2) t1 t2 (place_no len b _ t1) (refPlace_no len b _ t2) (is_false len b hb hl) i2 w
/-- A label's last bit off: its parent's. -/
theorem half (k b : Nat) (hk : k < 64) (hb : b < 2 ^ 64) (hm : b % 2 ^ (63 - k) = 0) : b = hd b k ∨ b = kid (hd b k) k := by
  rw [kid_eq, hd_eq]
  obtain ⟨q, rfl⟩ : ∃ q, b = 2 ^ (63 - k) * q := ⟨b / 2 ^ (63 - k), (Nat.mul_div_cancel' (Nat.dvd_of_mod_eq_zero hm)).symm⟩
  have hp : 0 < 2 ^ (63 - k) := Nat.pow_pos (by omega)
  have e : 2 ^ (64 - k) = 2 ^ (63 - k) * 2 := by rw [show 64 - k = 63 - k + 1 from by omega, Nat.pow_succ]
  rw [e, Nat.mul_div_mul_left _ _ hp]
  generalize 2 ^ (63 - k) = p at *
  have h2 : q = 2 * (q / 2) ∨ q = 2 * (q / 2) + 1 := by omega
  rcases h2 with h | h
  · refine Or.inl ?_
    calc p * q = p * (2 * (q / 2)) := by rw [← h]
      _ = q / 2 * (p * 2) := by rw [← Nat.mul_assoc, Nat.mul_comm (p * 2)]
  · refine Or.inr ?_
    calc p * q = p * (2 * (q / 2) + 1) := by rw [← h]
      _ = q / 2 * (p * 2) + p := by rw [Nat.mul_add, Nat.mul_one, ← Nat.mul_assoc, Nat.mul_comm (p * 2)]
theorem parents (n b : Nat) (hl : isL (n : Int) b = true) (hb : b < 2 ^ 64) (h1 : 1 ≤ n) (hn : n ≤ 64) :
    ∃ k c x : Nat, k + 1 = n ∧ k < 64 ∧ c < 2 ^ 64 ∧ c % 2 ^ (64 - k) = 0 ∧ isL (k : Int) c = true ∧ par b n = c ∧ sib b n = x ∧ x = (if eqLab (n : Int) b (n : Int) c then kid c k else c) ∧ c = b / 2 ^ (64 - n) / 2 ^ (n - k) * 2 ^ (64 - k) := by
  obtain ⟨k, rfl⟩ : ∃ k, n = k + 1 := ⟨n - 1, by omega⟩
  have hm := isL_mod (k + 1) b hl
  rw [show 64 - (k + 1) = 63 - k from by omega] at hm
  have hc : hd b k < 2 ^ 64 := Nat.lt_of_le_of_lt (hd_le _ _) hb
  have hcm := hd_aligned b k
  have hcl := isL_mk k (hd b k) (by omega) hcm
  have hdef : hd b k = b / 2 ^ (64 - (k + 1)) / 2 ^ (k + 1 - k) * 2 ^ (64 - k) := by
    rw [hd_eq, Nat.div_div_eq_div_mul, ← Nat.pow_add, show 64 - (k + 1) + (k + 1 - k) = 64 - k from by omega]
  have hh := half k b (by omega) hb hm
  refine ⟨k, hd b k, sib b (k + 1), rfl, by omega, hc, hcm, hcl, ?_, rfl, ?_, hdef⟩
  · rcases hh with h | h
    · rw [← h] at hcm ⊢
      exact par_one (by omega) hb hcm
    · generalize hd b k = c at *
      subst h
      exact par_two (by omega) hc hcm
  · rcases hh with h | h
    · rw [← h] at hcm ⊢
      rw [eqLab_refl, if_pos rfl]
      exact sib_one (by omega) hcm
    · generalize hd b k = c at *
      subst h
      have hne : eqLab ((k + 1 : Nat) : Int) (kid c k) ((k + 1 : Nat) : Int) c = false := by
        have : 0 < 2 ^ (63 - k) := Nat.pow_pos (by omega)
        have : kid c k ≠ c := by rw [kid_eq]; omega
        simp [eqLab, this]
      rw [hne, if_neg (by decide)]
      exact sib_two (by omega) hcm
theorem walk_yes (n : Nat) (b : Nat) (hb : b < 2 ^ 64) (bit : Int) (hn : n ≤ 64) (hl : isL (n : Int) b = true) (w : World) :
    Calls Try.prog 4 #[labV (n : Int) b, .int .i64 bit] w fun e w' => e = .returned (.bool true) ∧ Ext w w' := by
  obtain ⟨cl, cb, ce, c1, c2⟩ := child_both n b hb bit
  have hm := isL_mod n b hl
  have i1 : Says 17 _ _ := is_true n b hb hl
  have i2 := refIs_of n b true hb hl
  have h1 : Says 26 _ _ := span_true n b hl hb hn
  have h2 : Says 27 _ _ := refSpan_true n b hl hb hn
  have n1 := next_true n b hl hb hn
  have n2 : Says 29 #[labV (n : Int) b] (.tuple #[.int .u64 (((nextM n b).1 : Nat) : Int), .bool (nextM n b).2]) := by
    have hhl := hiL_lt n b hl hn hb
    unfold nextM
    by_cases hx : hiL n b = 18446744073709551615
    · rw [if_pos hx]
      rw [hx] at h2
      exact refNext_last n b b h2
    · rw [if_neg hx]
      exact refNext_go n b b (hiL n b) (hiL n b + 1) (by rw [beq_eq_false_iff_ne]; omega) (by rw [wrap_u64 (by omega) (by omega)]; omega) h2
  have t1 : Says 14 _ _ := text_true n b hl hb hn
  have hB : Says 59 _ _ := refBitsL_c n b hb hn
  have t2 := refText_go n b _ (by rw [txt_size]; exact hn) i2 hB
  have e47 : ({ data := #[47] } : ByteArray) = bytesB 1 (fun _ => 47) := by unfold bytesB; rfl
  rw [e47, ← textL_txt n b hn] at t2
  have a1 := place_go n b _ _ (by rw [textL_size]; omega) t1 (sum_ok _ (hash_size n b hn))
  have a2 := refPlace_go n b _ _ (by rw [textL_size]; omega) t2 (refSum_ok _ (hash_size n b hn))
  by_cases h0 : n = 0
  · subst h0
    have p1 := parent_none b hl hb
    have p2 := refParent_none b i2
    exact walk_same 0 b bit cl cb ce 0 0 7 0 0 7 _ _ 0 _ _ _ 0 _ 0 true c1 c2 p1 p2 (sibling_none b hl hb) (refSibling_err 0 b 7 rfl p2) h1 h2 n1 n2 t1 t2 a1 a2 i1 i2 w
  · obtain ⟨k, c, x, hk, hk64, hc, hcm, hcl, hpar, hsib, hx, hce⟩ := parents n b hl hb (by omega) hn
    have p1 := parent_ok n b hl hb (by omega) hn
    have s1 := sibling_ok n b hl hb (by omega) hn
    rw [hpar, show (n : Int) - 1 = (k : Int) from by omega] at p1
    rw [hsib] at s1
    have hO : Says 58 _ _ := of_c k (b / 2 ^ (64 - n) / 2 ^ (n - k)) (by omega) (by
      refine Nat.div_lt_of_lt_mul ?_
      rw [← Nat.pow_add, show n - k + k = n from by omega]
      exact top_lt n b hn hb)
    rw [← hce] at hO
    have p2 := refParent_go n b k c _ _ hk (txt_size _ _) (txt_take n k _ (by omega)) hn i2 hB hO
    have z0 : Says 21 _ _ := refChild_zero k c hc hcl hk64
    have z1 : Says 21 _ _ := refChild_one k c hc hcl hk64
    rw [show (k : Int) + 1 = (n : Int) from by omega] at z0 z1
    have s2 := refSibling_go n k b c c (kid c k) x _ rfl hx p2 z0 z1
    exact walk_same n b bit cl cb ce _ _ 0 _ _ 0 _ _ 0 _ _ _ 0 _ 0 true c1 c2 p1 p2 s1 s2 h1 h2 n1 n2 t1 t2 a1 a2 i1 i2 w

theorem walk (len : Int) (b : Nat) (wl : b < 2 ^ 64 ∧ (Lit.int .i64 len).wf = true) (bit : Int) (wb : (Lit.int .i64 bit).wf = true) (w : World) :
    Calls Try.prog 4 #[labV len b, .int .i64 bit] w fun e w' => e = .returned (.bool true) ∧ Ext w w' := by
  cases hl : isL len b with
  | false => exact walk_no len b wl.1 bit hl w
  | true =>
    obtain ⟨n, rfl, hn, _⟩ := isL_nat len b hl
    exact walk_yes n b wl.1 bit hn hl w

set_option maxRecDepth 100000 in
theorem lifted (os : Os) (started : os.Started) (H : Type) (enc : TypeId × Value → H) :
    ReturnsInHanded {} Try.checked os 4 .any (Rows.labelDoesSpec.pre6 enc Try.prog Try.f4 Rows.labelDoesRow.domain false) (Rows.labelDoesSpec.post enc Try.prog Try.f4 false true false false) := by
  refine returnsInHanded_of_change (C := Try.checked) own started (by kernel_rfl) Try.func4
    (ChangeSpec.witness6 (enc := enc) (C := Try.checked) false ⟨#[], #[.agg #[.int .i64 0, .int .u64 0], .int .i64 0], []⟩ 8 (by kernel_rfl) (by kernel_rfl) (by kernel_rfl) (by kernel_rfl)) ?_
  intro W base args ds gs before hval0 hW hcnd _
  have hval : ∀ (j : Nat) t v, Try.f4.params[j]? = some t → args[j]? = some v → Value.okWide Try.prog W .any base t v := hval0
  have hW' := hW
  obtain ⟨p, q, hA0, hV, rfl, hfz, hnd⟩ := hW
  have hA : DataW.TrodAll enc Try.prog W 0 (fun _ => true) true Try.f4.params.toList args.toList ds p := hA0
  rw [Try.params4] at hA hval
  obtain ⟨v0, vs0, d0, ds0, p0, q0, hargs, rfl, rfl, h0, r0⟩ := trodAll_cons hA
  obtain ⟨v1, vs1, d1, ds1, p1, q1, rfl, rfl, rfl, h1, r1⟩ := trodAll_cons r0
  obtain ⟨rfl, rfl, rfl⟩ := trodAll_nil r1
  obtain rfl : args = #[v0, v1] := by cases args; simp_all
  obtain ⟨rfl, rfl⟩ := trodVars_none hV
  have k0 := h0
  have lt0 : ∀ x ∈ p0, x.block < W.heap.size := by obtain ⟨m, hm⟩ := k0; exact DataW.trod_lt m _ _ _ hm
  have k1 := h1
  have lt1 : ∀ x ∈ p1, x.block < W.heap.size := by obtain ⟨m, hm⟩ := k1; exact DataW.trod_lt m _ _ _ hm
  obtain ⟨a0, b0, rfl, w0⟩ := open_label (hval 0 24 v0 rfl rfl) h0
  obtain ⟨a1, rfl, _, _, w1⟩ := open_int Try.underlying3 (hval 1 3 v1 rfl rfl) h1
  clear hA0 hval0
  refine (walk a0 b0 w0 a1 w1 W).mono fun e W' ⟨he, ext⟩ => ?_
  subst he
  have bel := ext.below
  exact ⟨_, rfl, _, _, _, [], _, [], hW', trodAll_mk1 (shut_bool Try.underlying4 _), (trodAll_cons_mk (Below.trod laidOut (by kernel_rfl) (of_decide_eq_true (by kernel_rfl)) k0 bel lt0) (trodAll_cons_mk (Below.trod laidOut (by kernel_rfl) (of_decide_eq_true (by kernel_rfl)) k1 bel lt1) trodAll_mk0)), rfl, bel.frame _, fun h => by cases h⟩

theorem over : Rows.labelDoesRow.holds Try.pinned (OpenSpec.ofChange Rows.labelDoesSpec) :=
  OpenClaim.holds_of_wide 4 Try.f4 rfl rfl rfl rfl rfl rfl rfl ⟨rfl, rfl, rfl, rfl, rfl⟩ rfl rfl rfl rfl rfl (by kernel_rfl) Try.func4 (by kernel_rfl)
    (of_decide_eq_true (by kernel_rfl)) (by unfold Func.isWrapper; first | (rw [if_pos (by decide +kernel)]; kernel_rfl) | (rw [if_neg (by decide +kernel)]; exact ⟨rfl, rfl⟩))
    (fun os started H enc _ => lifted os started H enc)

theorem proved : Rows.LabelDoesSaid := over
#print axioms proved
end Go.Proofs.Ytdlfgoiakkkilaa.lawLDoes
