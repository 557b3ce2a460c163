/-
  Labels: what is written is read (plain).
-/
import Derived.Test.YtdlfgoiakkkilaaLabX
import Derived.Test.YtdlfgoiakkkilaaLabZ
import Derived.Test.YtdlfgoiakkkilaaRefC
namespace Go.Proofs.Ytdlfgoiakkkilaa
open Go.RowKit
set_option linter.unusedSimpArgs false
set_option linter.unusedVariables false

theorem tail_txt (n b : Nat) (hn : n ≤ 64) : (bytesB n fun j => letL b (j + 1)) = txt n (b / 2 ^ (64 - n)) := by
  rw [txt_eq]
  refine bytesB_congr fun j hj => ?_
  unfold letL
  rw [if_neg (by omega), Nat.div_div_eq_div_mul, ← Nat.pow_add, show 64 - n + (n - 1 - j) = 64 - (j + 1) from by omega]
theorem acc_back (n b : Nat) (hn : n ≤ 64) (hb : b < 2 ^ 64) (hm : b % 2 ^ (64 - n) = 0) : accB (fun j => letL b (j + 1)) n = b := by
  have h1 := txt_acc (fun j => letL b (j + 1)) n hn (fun j _ => by show letL b (j + 1) = 48 ∨ letL b (j + 1) = 49; unfold letL; rw [if_neg (by omega)]; omega)
  have h2 := accB_ok (fun j => letL b (j + 1)) n hn
  rw [tail_txt n b hn] at h1
  have h3 := txt_inj n _ _ (top_lt n b hn hb) (top_lt n _ hn h2.2) h1
  rw [← top_mul n _ h2.1, ← h3, top_mul n b hm]
theorem parse_text (n b : Nat) (hn : n ≤ 64) (hb : b < 2 ^ 64) (hm : b % 2 ^ (64 - n) = 0) : Says 18 #[.string (textL n b)] (.tuple #[labV (n : Int) b, .int .i64 0]) := by
  have hsz := textL_size n b
  have hs : (textL n b).extract 0 1 = { data := #[47] } := by
    rw [textL_eq, bytesB_take _ _ _ (by omega), show bytesB 1 (letL b) = bytesB 1 (fun _ => 47) from bytesB_congr fun i hi => by unfold letL; rw [if_pos (by omega)]]
    unfold bytesB; rfl
  have ht : (textL n b).extract 1 (textL n b).size = bytesB n fun j => letL b (j + 1) := by
    rw [textL_eq]
    have := bytesB_drop (n + 1) 1 (letL b) (by omega)
    rw [bytesB_size, ← bytesB_size (n + 1) (letL b)] at *
    rw [this, bytesB_size]
    exact bytesB_congr fun i _ => by rw [Nat.add_comm]
  have hf : ∀ j (h : j < (bytesB n fun j => letL b (j + 1)).size), ((bytesB n fun j => letL b (j + 1))[j]'h).toNat = letL b (j + 1) := fun j h => by
    rw [bytesB_size] at h
    rw [bv_at]
    exact bv_bytes n (fun j => letL b (j + 1)) j h (letL_lt _ _)
  have hP := parse_ok (textL n b) (bytesB n fun j => letL b (j + 1)) (fun j => letL b (j + 1)) hs ht (by omega) (by rw [bytesB_size]; exact hn) hf (fun j _ => by show letL b (j + 1) = 48 ∨ letL b (j + 1) = 49; unfold letL; rw [if_neg (by omega)]; omega)
  rw [bytesB_size, acc_back n b hn hb hm] at hP
  exact hP
theorem text_same (n b m c : Nat) (hn : n ≤ 64) (hm : m ≤ 64) (hb : b < 2 ^ 64) (hc : c < 2 ^ 64) (h1 : b % 2 ^ (64 - n) = 0) (h2 : c % 2 ^ (64 - m) = 0) : ((textL n b).toList == (textL m c).toList) = eqLab (n : Int) b (m : Int) c := by
  rw [str_eq, Bool.eq_iff_iff, decide_eq_true_iff]
  unfold eqLab
  simp only [Bool.and_eq_true, beq_iff_eq]
  constructor
  · intro h
    have hs := congrArg ByteArray.size h
    rw [textL_size, textL_size] at hs
    obtain rfl : n = m := by omega
    rw [textL_eq, textL_eq] at h
    have hj := bytesB_inj (fun i _ => letL_lt b i) (fun i _ => letL_lt c i) h
    have he : (bytesB n fun j => letL b (j + 1)) = bytesB n fun j => letL c (j + 1) := bytesB_congr fun i hi => hj (i + 1) (by omega)
    rw [tail_txt n b hn, tail_txt n c hn] at he
    have h3 := txt_inj n _ _ (top_lt n b hn hb) (top_lt n c hn hc) he
    exact ⟨rfl, by rw [← top_mul n _ h1, h3, top_mul n c h2]⟩
  · rintro ⟨h, rfl⟩
    obtain rfl : n = m := by omega
    rfl
/-- The text that a label's place is the sum of. -/
theorem hash_size (n b : Nat) (hn : n ≤ 64) : ({ data := #[112, 104, 116] } ++ textL n b : ByteArray).size ≤ 4096 := by
  rw [ByteArray.size_append, textL_size]
  have : ({ data := #[112, 104, 116] } : ByteArray).size = 3 := rfl
  omega
end Go.Proofs.Ytdlfgoiakkkilaa
