/- For every bytes s the call WireOnly(s) returns true and leaves its argument as it was: what is read, put again, is the bytes that were read; with an error nothing is read. No condition. -/
import Derived.Test.YtijkmbebfodhdaaWirO
import Derived.Test.YtijkmbebfodhdaaOpenI
import Derived.Test.YtijkmbebfodhdaaRows
namespace Go.Proofs.Ytijkmbebfodhdaa.lawWOnly
open Go.ChangeShapes Go.WideShapes Go.ChangeAt Go.RowKit
set_option linter.unusedSimpArgs false
set_option linter.unusedVariables false
set_option maxRecDepth 20000

theorem valB_num (F : Nat → Nat) : ∀ k, valB F k = numOf F k
  | 0 => rfl
  | k + 1 => by rw [valB, numOf, valB_num F k, Nat.mul_comm]
theorem valB_ge (F : Nat → Nat) (h : 0 < F 0) : ∀ k, 256 ^ k ≤ valB F (k + 1)
  | 0 => by rw [valB, valB]; omega
  | k + 1 => by
    have := valB_ge F h k
    rw [valB, Nat.pow_succ]
    omega
theorem num_canon (m : Nat) (f : Nat → Nat) (hf : ∀ j, f j < 256) (h : numE m f = 0) : nB (valB (dropF 1 f) (f 0)) = f 0 ∧ valB (dropF 1 f) (f 0) < 2 ^ 64 ∧ f 0 ≤ 8 ∧ 1 + f 0 ≤ m ∧ bytesB (f 0 + 1) f = numB (valB (dropF 1 f) (f 0)) := by
  unfold numE at h
  by_cases h0 : m = 0
  · rw [if_pos h0] at h; omega
  rw [if_neg h0] at h
  by_cases h8 : 8 < f 0
  · rw [if_pos h8] at h; omega
  rw [if_neg h8] at h
  by_cases hm : m < 1 + f 0
  · rw [if_pos hm] at h; omega
  rw [if_neg hm] at h
  by_cases hb : 0 < f 0 ∧ f 1 = 0
  · rw [if_pos hb] at h; omega
  obtain ⟨n, hn⟩ : ∃ n, f 0 = n := ⟨_, rfl⟩
  rw [hn] at h8 hm hb ⊢
  have hl := valB_lt (dropF 1 f) (fun k => hf _) n
  have hp : 256 ^ n ≤ 256 ^ 8 := Nat.pow_le_pow_right (by omega) (by omega)
  have e8 : (256 : Nat) ^ 8 = 2 ^ 64 := by decide
  have hnb : nB (valB (dropF 1 f) n) = n := by
    by_cases hn0 : n = 0
    · subst hn0; rfl
    · obtain ⟨k, rfl⟩ : ∃ k, n = k + 1 := ⟨n - 1, by omega⟩
      exact nB_unique _ _ (by omega) (valB_ge (dropF 1 f) (show 0 < f 1 by omega) k) hl
  refine ⟨hnb, by omega, by omega, by omega, ?_⟩
  unfold numB
  rw [hnb]
  refine bytesB_congr fun j hj => ?_
  unfold numF
  rw [hnb]
  by_cases hj0 : j = 0
  · rw [if_pos hj0, hj0, hn]
  · rw [if_neg hj0, valB_num]
    have := numOf_dig (dropF 1 f) (fun k => hf _) n (j - 1) (by omega)
    rw [show n - 1 - (j - 1) = n - j from by omega] at this
    rw [this]
    unfold dropF
    rw [show 1 + (j - 1) = j from by omega]
theorem split_at (n m : Nat) (f : Nat → Nat) : bytesB (n + m) f = bytesB n f ++ bytesB m (dropF n f) := by
  rw [bytesB_append]
  refine bytesB_congr fun j hj => ?_
  split
  · rfl
  · unfold dropF; rw [show n + (j - n) = j from by omega]
theorem labAcc_num (F : Nat → Nat) : ∀ k, k ≤ 8 → labAcc F k = numOf F k * 2 ^ (64 - 8 * k)
  | 0, _ => by rw [labAcc, numOf, Nat.zero_mul]
  | k + 1, h => by
    rw [labAcc, numOf, labAcc_num F k (by omega), show 64 - 8 * k = 8 + (56 - 8 * k) from by omega, Nat.pow_add, ← Nat.mul_assoc, ← Nat.add_mul, show 64 - 8 * (k + 1) = 56 - 8 * k from by omega]
    congr 1
    omega
theorem lab_canon (m : Nat) (f : Nat → Nat) (hf : ∀ j, f j < 256) (h : labE m f = 0) : f 0 ≤ 64 ∧ 1 + labN f ≤ m ∧ isL (f 0 : Int) (labAcc (dropF 1 f) (labN f)) = true ∧ labAcc (dropF 1 f) (labN f) < 2 ^ 64 ∧ bytesB (labN f + 1) f = labB (f 0) (labAcc (dropF 1 f) (labN f)) := by
  unfold labE at h
  by_cases h0 : m = 0
  · rw [if_pos h0] at h; omega
  rw [if_neg h0] at h
  by_cases h8 : 64 < f 0
  · rw [if_pos h8] at h; omega
  rw [if_neg h8] at h
  by_cases hm : m - 1 < labN f
  · rw [if_pos hm] at h; omega
  rw [if_neg hm] at h
  by_cases hl : isL (f 0 : Int) (labAcc (dropF 1 f) (labN f)) = true
  · have hc : labN f ≤ 8 := by unfold labN; omega
    have hac := labAcc_ok (dropF 1 f) (fun k => hf _) (labN f) hc
    refine ⟨by omega, by omega, hl, hac.2, ?_⟩
    have hnum := labAcc_num (dropF 1 f) (labN f) hc
    unfold labB
    rw [show (f 0 + 7) / 8 = labN f from rfl]
    refine bytesB_congr fun j hj => ?_
    unfold labF
    by_cases hj0 : j = 0
    · rw [if_pos hj0, hj0]
    · rw [if_neg hj0, hnum]
      obtain ⟨c, hcc⟩ : ∃ c, labN f = c := ⟨_, rfl⟩
      rw [hcc] at hj hc ⊢
      have := numOf_dig (dropF 1 f) (fun k => hf _) c (j - 1) (by omega)
      rw [show 64 - 8 * j = (64 - 8 * c) + 8 * (c - 1 - (j - 1)) from by omega, Nat.pow_add, Nat.mul_comm (2 ^ (64 - 8 * c)), Nat.mul_div_mul_right _ _ (Nat.pow_pos (by omega)), Nat.pow_mul, show (2 : Nat) ^ 8 = 256 from rfl, this]
      unfold dropF
      rw [show 1 + (j - 1) = j from by omega]
  · rw [if_neg hl] at h; omega
theorem walk (s : ByteArray) (_ : s.size ≤ maxLen) (w : World) : Calls Try.prog 7 #[.string s] w fun e w' => e = .returned (.bool true) ∧ Ext w w' := by
  by_cases h6 : 6000 < s.size
  · exact only_out s h6 w
  · obtain ⟨m, hm⟩ : ∃ m, s.size = m := ⟨_, rfl⟩
    obtain ⟨f, hF⟩ : ∃ f, byteOf s = f := ⟨_, rfl⟩
    have hf : ∀ j, f j < 256 := by rw [← hF]; exact byteOf_lt s
    have hs : bytesB m f = s := by rw [← hF, ← hm]; exact byteOf_eq s
    have hm6 : ¬ 6000 < m := by omega
    have pre : ∀ k, k ≤ m → s.extract 0 k = bytesB k f := fun k hk => by rw [← hs]; exact bytesB_take m k f hk
    have emp : ∀ A : ByteArray, ({ data := #[] } : ByteArray) ++ A = A := fun A => ByteArray.empty_append
    have zl : labV 0 0 = .agg #[.int .i64 0, .int .u64 0] := by rw [labV_eq]; rfl
    refine only_in s m hm hm6 ?_ ?_ ?_ ?_ w
    · by_cases h : numE m f = 0
      · obtain ⟨e1, e2, e3, e4, e5⟩ := num_canon m f hf h
        refine Or.inr ⟨_, m - 1 - f 0, numB (valB (dropF 1 f) (f 0)), _, fun b => by have := Number_ok b m f hf h; rw [hs] at this; exact this, bytesB_size _ _, ?_, ?_⟩
        · have := putNumber_c { data := #[] } _ e2 (by decide)
          rw [emp] at this
          exact this
        · exact onlyIs_c s _ m _ (f 0 + 1) hm (by rw [← e5, bytesB_size]) (by omega) (by omega) (by rw [pre _ (by omega), e5])
      · exact Or.inl ⟨((numE m f : Nat) : Int), by omega, fun b => by have := Number_err b m f hf h; rw [hs] at this; exact this⟩
    · by_cases h : txtE m f = 0
      · have hn : numE m f = 0 := by
          unfold txtE at h
          by_cases hq : numE m f ≠ 0
          · rw [if_pos hq] at h; exact h
          · omega
        obtain ⟨e1, e2, e3, e4, e5⟩ := num_canon m f hf hn
        have ht4 : txtN f ≤ 4096 ∧ txtN f ≤ m - 1 - f 0 := by
          unfold txtE at h
          rw [if_neg (by omega)] at h
          by_cases h4 : 4096 < txtN f
          · rw [if_pos h4] at h; omega
          · rw [if_neg h4] at h
            by_cases hl : m - 1 - f 0 < txtN f
            · rw [if_pos hl] at h; omega
            · omega
        refine Or.inr ⟨_, m - 1 - f 0 - txtN f, numB (txtN f) ++ bytesB (txtN f) (dropF (1 + f 0) f), _, fun b => by have := Text_ok b m f hf h; rw [hs] at this; exact this, bytesB_size _ _, ?_, ?_⟩
        · have := putText_c { data := #[] } (bytesB (txtN f) (dropF (1 + f 0) f)) (by rw [bytesB_size]; exact ht4.1) (by decide)
          rw [emp, bytesB_size] at this
          exact this
        · have e6 : bytesB (f 0 + 1 + txtN f) f = numB (txtN f) ++ bytesB (txtN f) (dropF (1 + f 0) f) := by
            rw [split_at, e5, Nat.add_comm 1 (f 0)]; rfl
          exact onlyIs_c s _ m _ (f 0 + 1 + txtN f) hm (by rw [← e6, bytesB_size]) (by omega) (by omega) (by rw [pre _ (by omega), e6])
      · refine Or.inl ⟨((txtE m f : Nat) : Int), _, by omega, fun b => by have := Text_err b m f hf h; rw [hs] at this; exact this, putText_c { data := #[] } { data := #[] } (by decide) (by decide)⟩
    · by_cases h : m < 20
      · exact Or.inl ⟨h, fun b => by have := Place_err b m f h; rw [hs] at this; exact this⟩
      · have ha : ∀ j, j < 20 → f j = dig (numOf f 20) j := fun j hj => by
          have := numOf_dig f hf 20 j hj
          unfold dig
          rw [show 19 - j = 20 - 1 - j from by omega, this]
        refine Or.inr ⟨numOf f 20, m - 20, bytesB 20 (dig (numOf f 20)), _, fun b => by have := Place_ok b m (numOf f 20) f (by omega) ha; rw [hs] at this; exact this, bytesB_size _ _, ?_, ?_⟩
        · have := putPlace_c { data := #[] } (numOf f 20) (by decide)
          rw [emp] at this
          exact this
        · exact onlyIs_c s _ m _ 20 hm (bytesB_size _ _) (by omega) (by omega) (by rw [pre 20 (by omega)]; exact bytesB_congr ha)
    · by_cases h : labE m f = 0
      · obtain ⟨e1, e2, e3, e4, e5⟩ := lab_canon m f hf h
        refine Or.inr ⟨f 0, _, m - 1 - labN f, labB (f 0) (labAcc (dropF 1 f) (labN f)), _, fun b => by have := Label_ok b m f hf h; rw [hs] at this; exact this, bytesB_size _ _, ?_, ?_⟩
        · have := putLabel_c { data := #[] } (by decide) (f 0) _ e1 (is_true _ _ e4 e3)
          rw [emp] at this
          exact this
        · exact onlyIs_c s _ m _ (labN f + 1) hm (by rw [← e5, bytesB_size]) (by omega) (by omega) (by rw [pre _ (by omega), e5])
      · have hz : Says 14 #[.string { data := #[] }, labV ((0 : Nat) : Int) 0] _ := putLabel_c { data := #[] } (by decide) 0 0 (by decide) (is_true 0 0 (by decide) (by decide +kernel))
        refine Or.inl ⟨((labE m f : Nat) : Int), { data := #[] } ++ bytesB ((0 + 7) / 8 + 1) (labF 0 0), by omega, fun b => by have := Label_err b m f hf h; rw [hs, zl] at this; exact this, ?_⟩
        rw [← zl]
        exact hz

set_option maxRecDepth 100000 in
theorem lifted (os : Os) (started : os.Started) (H : Type) (enc : TypeId × Value → H) :
    ReturnsInHanded {} Try.checked os 7 .any (Rows.wireOnlySpec.pre6 enc Try.prog Try.f7 Rows.wireOnlyRow.domain false) (Rows.wireOnlySpec.post enc Try.prog Try.f7 false true false false) := by
  refine returnsInHanded_of_change (C := Try.checked) own started (by kernel_rfl) Try.func7
    (ChangeSpec.witness6 (enc := enc) (C := Try.checked) false ⟨#[], #[.string ByteArray.empty], []⟩ 8 (by kernel_rfl) (by kernel_rfl) (by kernel_rfl) (by kernel_rfl)) ?_
  intro W base args ds gs before hval0 hW hcnd _
  have hval : ∀ (j : Nat) t v, Try.f7.params[j]? = some t → args[j]? = some v → Value.okWide Try.prog W .any base t v := hval0
  have hW' := hW
  obtain ⟨p, q, hA0, hV, rfl, hfz, hnd⟩ := hW
  have hA : DataW.TrodAll enc Try.prog W 0 (fun _ => true) true Try.f7.params.toList args.toList ds p := hA0
  rw [Try.params7] at hA hval
  obtain ⟨v0, vs0, d0, ds0, p0, q0, hargs, rfl, rfl, h0, r0⟩ := trodAll_cons hA
  obtain ⟨rfl, rfl, rfl⟩ := trodAll_nil r0
  obtain rfl : args = #[v0] := by cases args; simp_all
  obtain ⟨rfl, rfl⟩ := trodVars_none hV
  have k0 := h0
  have lt0 : ∀ x ∈ p0, x.block < W.heap.size := by obtain ⟨m, hm⟩ := k0; exact DataW.trod_lt m _ _ _ hm
  obtain ⟨a0, rfl, _, _, w0⟩ := Go.ChangeMaps.open_string Try.underlying9 (hval 0 9 v0 rfl rfl) h0
  clear hA0 hval0
  refine (walk a0 w0 W).mono fun e W' ⟨he, ext⟩ => ?_
  subst he
  have bel := ext.below
  exact ⟨_, rfl, _, _, _, [], _, [], hW', trodAll_mk1 (shut_bool Try.underlying4 _), (trodAll_cons_mk (Below.trod laidOut (by kernel_rfl) (of_decide_eq_true (by kernel_rfl)) k0 bel lt0) trodAll_mk0), rfl, bel.frame _, fun h => by cases h⟩

theorem over : Rows.wireOnlyRow.holds Try.pinned (OpenSpec.ofChange Rows.wireOnlySpec) :=
  OpenClaim.holds_of_wide 7 Try.f7 rfl rfl rfl rfl rfl rfl rfl ⟨rfl, rfl, rfl, rfl, rfl⟩ rfl rfl rfl rfl rfl (by kernel_rfl) Try.func7 (by kernel_rfl)
    (of_decide_eq_true (by kernel_rfl)) (by unfold Func.isWrapper; first | (rw [if_pos (by decide +kernel)]; kernel_rfl) | (rw [if_neg (by decide +kernel)]; exact ⟨rfl, rfl⟩))
    (fun os started H enc _ => lifted os started H enc)

theorem proved : Rows.WireOnlySaid := over
#print axioms proved
end Go.Proofs.Ytijkmbebfodhdaa.lawWOnly
