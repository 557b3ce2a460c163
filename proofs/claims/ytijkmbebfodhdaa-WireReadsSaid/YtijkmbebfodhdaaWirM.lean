/-
  Wire: both readers answer alike.
-/
import Derived.Test.YtijkmbebfodhdaaWirK
namespace Go.Proofs.Ytijkmbebfodhdaa
open Go.RowKit
set_option linter.unusedSimpArgs false
set_option linter.unusedVariables false

theorem valB_num (F : Nat → Nat) : ∀ k, valB F k = numOf F k
  | 0 => rfl
  | k + 1 => by rw [valB, numOf, valB_num F k, Nat.mul_comm]
theorem valB_ge (F : Nat → Nat) (h : 0 < F 0) : ∀ k, 256 ^ k ≤ valB F (k + 1)
  | 0 => by rw [valB, valB]; omega
  | k + 1 => by
    have := valB_ge F h k
    rw [valB, Nat.pow_succ]
    omega
theorem num_canon (m : Nat) (f : Nat → Nat) (hf : ∀ j, f j < 256) (h : numE m f = 0) : nB (valB (dropF 1 f) (f 0)) = f 0 ∧ valB (dropF 1 f) (f 0) < 2 ^ 64 ∧ f 0 ≤ 8 ∧ 1 + f 0 ≤ m ∧ bytesB (f 0 + 1) f = numB (valB (dropF 1 f) (f 0)) := by
  unfold numE at h
  by_cases h0 : m = 0
  · rw [if_pos h0] at h; omega
  rw [if_neg h0] at h
  by_cases h8 : 8 < f 0
  · rw [if_pos h8] at h; omega
  rw [if_neg h8] at h
  by_cases hm : m < 1 + f 0
  · rw [if_pos hm] at h; omega
  rw [if_neg hm] at h
  by_cases hb : 0 < f 0 ∧ f 1 = 0
  · rw [if_pos hb] at h; omega
  obtain ⟨n, hn⟩ : ∃ n, f 0 = n := ⟨_, rfl⟩
  rw [hn] at h8 hm hb ⊢
  have hl := valB_lt (dropF 1 f) (fun k => hf _) n
  have hp : 256 ^ n ≤ 256 ^ 8 := Nat.pow_le_pow_right (by omega) (by omega)
  have e8 : (256 : Nat) ^ 8 = 2 ^ 64 := by decide
  have hnb : nB (valB (dropF 1 f) n) = n := by
    by_cases hn0 : n = 0
    · subst hn0; rfl
    · obtain ⟨k, rfl⟩ : ∃ k, n = k + 1 := ⟨n - 1, by omega⟩
      exact nB_unique _ _ (by omega) (valB_ge (dropF 1 f) (show 0 < f 1 by omega) k) hl
  refine ⟨hnb, by omega, by omega, by omega, ?_⟩
  unfold numB
  rw [hnb]
  refine bytesB_congr fun j hj => ?_
  unfold numF
  rw [hnb]
  by_cases hj0 : j = 0
  · rw [if_pos hj0, hj0, hn]
  · rw [if_neg hj0, valB_num]
    have := numOf_dig (dropF 1 f) (fun k => hf _) n (j - 1) (by omega)
    rw [show n - 1 - (j - 1) = n - j from by omega] at this
    rw [this]
    unfold dropF
    rw [show 1 + (j - 1) = j from by omega]
theorem valB_small (F : Nat → Nat) (hF : ∀ k, F k < 256) (h : F 0 = 0) : ∀ k, valB F (k + 1) < 256 ^ k
  | 0 => by rw [valB, valB, h]; decide
  | k + 1 => by
    have h1 := valB_small F hF h k
    have h2 := hF (k + 1)
    rw [valB, Nat.pow_succ]
    omega
/-- GetNumber, whatever the bytes. -/
theorem get_any (m : Nat) (f : Nat → Nat) (hf : ∀ j, f j < 256) (hm6 : m < 2 ^ 61) : ∃ v k : Nat, Says 54 #[.string (bytesB m f)] (.tuple #[.int .u64 (v : Int), .int .i64 (k : Int), .int .i64 ((numE m f : Nat) : Int)]) ∧
    (numE m f = 0 → v = valB (dropF 1 f) (f 0) ∧ k = f 0 + 1 ∧ k ≤ m) := by
  have hsz := bytesB_size m f
  by_cases h0 : m = 0
  · have e : numE m f = 4 := by unfold numE; rw [if_pos h0]
    rw [e]
    exact ⟨0, 0, get_more _ (by omega), fun h => by omega⟩
  have hI : ∀ k : Nat, k < m → ∀ w, (Instr.index 9 (.string (bytesB m f)) (.int .i64 (k : Int))).run Try.prog w = .ok (.int .u8 ((f k : Nat) : Int)) w := fun k hk => run_indexS (bytesB_get hk) (hf k)
  have hI0 : ∀ w, (Instr.index 9 (.string (bytesB m f)) (.int .i64 0)).run Try.prog w = .ok (.int .u8 ((f 0 : Nat) : Int)) w := hI 0 (by omega)
  by_cases h8 : 8 < f 0
  · have e : numE m f = 3 := by unfold numE; rw [if_neg h0, if_pos h8]
    rw [e]
    exact ⟨0, 0, get_form _ m (f 0) hsz (by omega) h8 (hf 0) hI0, fun h => by omega⟩
  by_cases hm : m < 1 + f 0
  · have e : numE m f = 4 := by unfold numE; rw [if_neg h0, if_neg h8, if_pos hm]
    rw [e]
    exact ⟨0, 0, get_cut _ m (f 0) hsz (by omega) h8 (by omega) hI0, fun h => by omega⟩
  have hl := valB_lt (dropF 1 f) (fun k => hf _) (f 0)
  have hp : 256 ^ f 0 ≤ 256 ^ 8 := Nat.pow_le_pow_right (by omega) (by omega)
  have e8 : (256 : Nat) ^ 8 = 2 ^ 64 := by decide
  have hg := fun q hq => get_go (bytesB m f) (bytesB (f 0 + 1) f) (numB (valB (dropF 1 f) (f 0))) m (f 0) (dropF 1 f) (fun k => hf _) hsz hm6 (by omega) (by omega) q hI0
    (fun k hk => by have := hI (k + 1) (by omega); unfold dropF; rw [Nat.add_comm 1 k]; exact this) (bytesB_take m _ f (by omega)) (refNumber_c _ (by omega)) hq
  by_cases hb : 0 < f 0 ∧ f 1 = 0
  · have e : numE m f = 3 := by unfold numE; rw [if_neg h0, if_neg h8, if_neg hm, if_pos hb]
    have hq : ((numB (valB (dropF 1 f) (f 0))).toList != (bytesB (f 0 + 1) f).toList) = true := by
      rw [bne, str_eq, decide_eq_false, Bool.not_false]
      intro he
      have hs := congrArg ByteArray.size he
      unfold numB at hs
      rw [bytesB_size, bytesB_size] at hs
      obtain ⟨k, hk⟩ : ∃ k, f 0 = k + 1 := ⟨f 0 - 1, by omega⟩
      rw [hk] at hs
      have h1 := valB_small (dropF 1 f) (fun k => hf _) (show f 1 = 0 from hb.2) k
      have hv : 0 < valB (dropF 1 f) (k + 1) := by
        rcases Nat.eq_zero_or_pos (valB (dropF 1 f) (k + 1)) with h | h
        · rw [h] at hs; exact absurd hs (by show ¬ 0 + 1 = k + 1 + 1; omega)
        · exact h
      have h2 := nB_le _ hv
      have h3 := (Nat.pow_lt_pow_iff_right (show 1 < 256 by omega)).1 (Nat.lt_of_le_of_lt h2 h1)
      omega
    have hh := hg true hq
    rw [if_pos rfl] at hh
    rw [e]
    exact ⟨0, 0, hh, fun h => by omega⟩
  · have e : numE m f = 0 := by unfold numE; rw [if_neg h0, if_neg h8, if_neg hm, if_neg hb]
    obtain ⟨_, _, _, _, e5⟩ := num_canon m f hf e
    have hq : ((numB (valB (dropF 1 f) (f 0))).toList != (bytesB (f 0 + 1) f).toList) = false := by rw [e5]; simp
    have hh := hg false hq
    rw [if_neg (by decide)] at hh
    rw [e]
    exact ⟨_, f 0 + 1, hh, fun _ => ⟨rfl, rfl, by omega⟩⟩
theorem both_num (s : ByteArray) (hs : s.size < 2 ^ 61) : ∃ (v e : Nat) (r : ByteArray), r.size ≤ s.size ∧ (∀ b, Takes 24 #[.pointer (some ⟨b, 0, none⟩)] b s (.tuple #[.int .u64 (v : Int), .int .i64 (e : Int)]) r) ∧
    (∀ b, TakesR 28 #[.pointer (some ⟨b, 0, none⟩)] b s (.tuple #[.int .u64 (v : Int), .int .i64 (e : Int)]) r) := by
  obtain ⟨m, hm⟩ : ∃ m, s.size = m := ⟨_, rfl⟩
  obtain ⟨f, hF⟩ : ∃ f, byteOf s = f := ⟨_, rfl⟩
  have hf : ∀ j, f j < 256 := by rw [← hF]; exact byteOf_lt s
  have hsb : bytesB m f = s := by rw [← hF, ← hm]; exact byteOf_eq s
  obtain ⟨v, k, hg, h2⟩ := get_any m f hf (by omega)
  by_cases h : numE m f = 0
  · obtain ⟨rfl, rfl, hk⟩ := h2 h
    rw [h] at hg
    refine ⟨_, 0, bytesB (m - 1 - f 0) (dropF (1 + f 0) f), by rw [bytesB_size]; omega, fun b => by have := Number_ok b m f hf h; rw [hsb] at this; exact this, fun b => ?_⟩
    have := refNum_ok b (bytesB m f) (bytesB (m - (f 0 + 1)) (dropF (f 0 + 1) f)) _ (f 0 + 1) m (bytesB_size _ _) hk (by rw [bytesB_size]; exact bytesB_drop m _ f hk) hg
    rw [hsb, Nat.add_comm (f 0) 1, show m - (1 + f 0) = m - 1 - f 0 from by omega] at this
    exact this
  · refine ⟨0, numE m f, s, Nat.le_refl _, fun b => by have := Number_err b m f hf h; rw [hsb] at this; exact this, fun b => ?_⟩
    have := refNum_err b (bytesB m f) _ _ _ (show ((numE m f : Nat) : Int) ≠ 0 by omega) hg
    rw [hsb] at this
    exact this
theorem both_txt (s : ByteArray) (hs : s.size < 2 ^ 61) : ∃ (t : ByteArray) (e : Nat) (r : ByteArray), r.size ≤ s.size ∧ (∀ b, Takes 25 #[.pointer (some ⟨b, 0, none⟩)] b s (.tuple #[.string t, .int .i64 (e : Int)]) r) ∧
    (∀ b, TakesR 29 #[.pointer (some ⟨b, 0, none⟩)] b s (.tuple #[.string t, .int .i64 (e : Int)]) r) := by
  obtain ⟨m, hm⟩ : ∃ m, s.size = m := ⟨_, rfl⟩
  obtain ⟨f, hF⟩ : ∃ f, byteOf s = f := ⟨_, rfl⟩
  have hf : ∀ j, f j < 256 := by rw [← hF]; exact byteOf_lt s
  have hsb : bytesB m f = s := by rw [← hF, ← hm]; exact byteOf_eq s
  obtain ⟨v, k, hg, h2⟩ := get_any m f hf (by omega)
  by_cases h : txtE m f = 0
  · have hn : numE m f = 0 := by
      unfold txtE at h
      by_cases hq : numE m f ≠ 0
      · rw [if_pos hq] at h; exact h
      · omega
    obtain ⟨rfl, rfl, hk⟩ := h2 hn
    rw [hn] at hg
    have ht4 : txtN f ≤ 4096 ∧ txtN f ≤ m - 1 - f 0 := by
      unfold txtE at h
      rw [if_neg (by omega)] at h
      by_cases h4 : 4096 < txtN f
      · rw [if_pos h4] at h; omega
      · rw [if_neg h4] at h
        by_cases hl : m - 1 - f 0 < txtN f
        · rw [if_pos hl] at h; omega
        · omega
    refine ⟨_, 0, bytesB (m - 1 - f 0 - txtN f) (dropF (1 + f 0 + txtN f) f), by rw [bytesB_size]; omega, fun b => by have := Text_ok b m f hf h; rw [hsb] at this; exact this, fun b => ?_⟩
    have hmid : (bytesB m f).extract (f 0 + 1) (f 0 + 1 + txtN f) = bytesB (txtN f) (dropF (1 + f 0) f) := by
      have h1 : bytesB m f = bytesB (f 0 + 1 + txtN f) f ++ bytesB (m - (f 0 + 1 + txtN f)) (dropF (f 0 + 1 + txtN f) f) := by
        rw [bytesB_append, show f 0 + 1 + txtN f + (m - (f 0 + 1 + txtN f)) = m from by omega]
        refine bytesB_congr fun j hj => ?_
        split
        · rfl
        · unfold dropF; rw [show f 0 + 1 + txtN f + (j - (f 0 + 1 + txtN f)) = j from by omega]
      have h2 : (bytesB (f 0 + 1 + txtN f) f).extract (f 0 + 1) (f 0 + 1 + txtN f) = bytesB (txtN f) (dropF (1 + f 0) f) := by
        rw [bytesB_drop _ _ _ (by omega), show f 0 + 1 + txtN f - (f 0 + 1) = txtN f from by omega, Nat.add_comm 1 (f 0)]; rfl
      rw [← h2, ← bytesB_take m (f 0 + 1 + txtN f) f (by omega)]
      simp [ByteArray.extract_extract]
    have := refTxt_ok b (bytesB m f) (bytesB (txtN f) (dropF (1 + f 0) f)) (bytesB (m - (f 0 + 1 + txtN f)) (dropF (f 0 + 1 + txtN f) f)) (txtN f) (f 0 + 1) m (by omega) (bytesB_size _ _) (by omega) (by omega) (by rw [bytesB_size]; exact bytesB_drop m _ f (by omega)) hmid hg
    rw [hsb, Nat.add_comm (f 0) 1, show m - (1 + f 0 + txtN f) = m - 1 - f 0 - txtN f from by omega] at this
    exact this
  · refine ⟨{ data := #[] }, txtE m f, s, Nat.le_refl _, fun b => by have := Text_err b m f hf h; rw [hsb] at this; exact this, fun b => ?_⟩
    by_cases hn : numE m f = 0
    · obtain ⟨rfl, rfl, hk⟩ := h2 hn
      rw [hn] at hg
      have ht : txtE m f = if 4096 < txtN f then 3 else if m - 1 - f 0 < txtN f then 4 else 0 := by unfold txtE; rw [if_neg (by omega)]
      by_cases h4 : 4096 < txtN f
      · have := refTxt_form b (bytesB m f) (txtN f) _ h4 hg
        rw [hsb] at this
        rw [ht, if_pos h4]
        exact this
      · by_cases hl : m - 1 - f 0 < txtN f
        · have := refTxt_cut b (bytesB m f) (txtN f) (f 0 + 1) m h4 (bytesB_size _ _) (by omega) hk (by omega) hg
          rw [hsb] at this
          rw [ht, if_neg h4, if_pos hl]
          exact this
        · rw [ht, if_neg h4, if_neg hl] at h
          exact absurd rfl h
    · have e : txtE m f = numE m f := by unfold txtE; rw [if_pos hn]
      have := refTxt_err b (bytesB m f) _ _ _ (show ((numE m f : Nat) : Int) ≠ 0 by omega) hg
      rw [hsb] at this
      rw [e]
      exact this
theorem both_plc (s : ByteArray) (hs : s.size < 2 ^ 61) : ∃ (a e : Nat) (r : ByteArray), r.size ≤ s.size ∧ (∀ b, Takes 30 #[.pointer (some ⟨b, 0, none⟩)] b s (.tuple #[idV a, .int .i64 (e : Int)]) r) ∧
    (∀ b, TakesR 31 #[.pointer (some ⟨b, 0, none⟩)] b s (.tuple #[idV a, .int .i64 (e : Int)]) r) := by
  obtain ⟨m, hm⟩ : ∃ m, s.size = m := ⟨_, rfl⟩
  obtain ⟨f, hF⟩ : ∃ f, byteOf s = f := ⟨_, rfl⟩
  have hf : ∀ j, f j < 256 := by rw [← hF]; exact byteOf_lt s
  have hsb : bytesB m f = s := by rw [← hF, ← hm]; exact byteOf_eq s
  by_cases h : m < 20
  · refine ⟨0, 4, s, Nat.le_refl _, fun b => by have := Place_err b m f h; rw [hsb] at this; exact this, fun b => refPl_err b s m hm h⟩
  · have ha : ∀ j, j < 20 → f j = dig (numOf f 20) j := fun j hj => by
      have := numOf_dig f hf 20 j hj
      unfold dig
      rw [show 19 - j = 20 - 1 - j from by omega, this]
    refine ⟨numOf f 20, 0, bytesB (m - 20) (dropF 20 f), by rw [bytesB_size]; omega, fun b => by have := Place_ok b m (numOf f 20) f (by omega) ha; rw [hsb] at this; exact this, fun b => ?_⟩
    have := refPl_ok b (numOf f 20) (bytesB m f) (bytesB (m - 20) (dropF 20 f)) m (bytesB_size _ _) (by omega) (by rw [bytesB_size]; exact bytesB_drop m 20 f (by omega)) (fun k hk => by rw [← ha k hk]; exact run_indexS (bytesB_get (by omega)) (hf k))
    rw [hsb] at this
    exact this
theorem both_lab (s : ByteArray) (hs : s.size < 2 ^ 61) : ∃ (l : Int) (k e : Nat) (r : ByteArray), r.size ≤ s.size ∧ (∀ b, Takes 26 #[.pointer (some ⟨b, 0, none⟩)] b s (.tuple #[labV l k, .int .i64 (e : Int)]) r) ∧
    (∀ b, TakesR 32 #[.pointer (some ⟨b, 0, none⟩)] b s (.tuple #[labV l k, .int .i64 (e : Int)]) r) := by
  obtain ⟨m, hm⟩ : ∃ m, s.size = m := ⟨_, rfl⟩
  obtain ⟨f, hF⟩ : ∃ f, byteOf s = f := ⟨_, rfl⟩
  have hf : ∀ j, f j < 256 := by rw [← hF]; exact byteOf_lt s
  have hsb : bytesB m f = s := by rw [← hF, ← hm]; exact byteOf_eq s
  by_cases h0 : m = 0
  · have e : labE m f = 4 := by unfold labE; rw [if_pos h0]
    exact ⟨0, 0, 4, s, Nat.le_refl _, fun b => by have := Label_err b m f hf (by omega); rw [hsb, e] at this; exact this, fun b => refLb_more b s (by omega)⟩
  have hI : ∀ k : Nat, k < m → ∀ w, (Instr.index 9 (.string s) (.int .i64 (k : Int))).run Try.prog w = .ok (.int .u8 ((f k : Nat) : Int)) w := fun k hk => by rw [← hsb]; exact run_indexS (bytesB_get hk) (hf k)
  have hI0 : ∀ w, (Instr.index 9 (.string s) (.int .i64 0)).run Try.prog w = .ok (.int .u8 ((f 0 : Nat) : Int)) w := hI 0 (by omega)
  by_cases h8 : 64 < f 0
  · have e : labE m f = 3 := by unfold labE; rw [if_neg h0, if_pos h8]
    exact ⟨0, 0, 3, s, Nat.le_refl _, fun b => by have := Label_err b m f hf (by omega); rw [hsb, e] at this; exact this, fun b => refLb_form b s m (f 0) hm (by omega) h8 (hf 0) hI0⟩
  by_cases hc : m - 1 < labN f
  · have e : labE m f = 4 := by unfold labE; rw [if_neg h0, if_neg h8, if_pos hc]
    exact ⟨0, 0, 4, s, Nat.le_refl _, fun b => by have := Label_err b m f hf (by omega); rw [hsb, e] at this; exact this, fun b => refLb_cut b s m (f 0) (labN f) hm (by omega) h8 rfl (by omega) hI0⟩
  have hcl : labN f ≤ 8 := by unfold labN; omega
  have hac := labAcc_ok (dropF 1 f) (fun k => hf _) (labN f) hcl
  have hg := fun b => refLb_go b s (bytesB (m - (labN f + 1)) (dropF (labN f + 1) f)) m (f 0) (labN f) (dropF 1 f) (fun k => hf _) hm (by omega) h8 rfl (by omega) (by rw [← hsb, bytesB_size]; exact bytesB_drop m _ f (by omega)) _ hI0
    (fun k hk => by have := hI (k + 1) (by omega); unfold dropF; rw [Nat.add_comm 1 k]; exact this) (refIs_c (f 0 : Int) _ hac.2)
  by_cases hq : isL (f 0 : Int) (labAcc (dropF 1 f) (labN f)) = true
  · have e : labE m f = 0 := by unfold labE; rw [if_neg h0, if_neg h8, if_neg hc, if_pos hq]
    refine ⟨_, _, 0, bytesB (m - 1 - labN f) (dropF (1 + labN f) f), by rw [bytesB_size]; omega, fun b => by have := Label_ok b m f hf e; rw [hsb] at this; exact this, fun b => ?_⟩
    have := hg b
    rw [if_pos hq, if_pos hq, Nat.add_comm (labN f) 1, show m - (1 + labN f) = m - 1 - labN f from by omega] at this
    exact this
  · have e : labE m f = 3 := by unfold labE; rw [if_neg h0, if_neg h8, if_neg hc, if_neg hq]
    refine ⟨0, 0, 3, s, Nat.le_refl _, fun b => by have := Label_err b m f hf (by omega); rw [hsb, e] at this; exact this, fun b => ?_⟩
    have := hg b
    rw [if_neg hq, if_neg hq] at this
    exact this
end Go.Proofs.Ytijkmbebfodhdaa
