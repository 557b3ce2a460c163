/-
  Wire: what is put is read (plain).
-/
import Derived.Test.YtijkmbebfodhdaaWirI
namespace Go.Proofs.Ytijkmbebfodhdaa
open Go.RowKit
set_option linter.unusedSimpArgs false
set_option linter.unusedVariables false

def catF (n : Nat) (f g : Nat → Nat) (j : Nat) : Nat := if j < n then f j else g (j - n)
theorem catF_eq (n m : Nat) (f g : Nat → Nat) : bytesB n f ++ bytesB m g = bytesB (n + m) (catF n f g) := bytesB_append ..
theorem drop_cat (n : Nat) (f g : Nat → Nat) : dropF n (catF n f g) = g := by
  funext j
  unfold dropF catF
  rw [if_neg (by omega), Nat.add_sub_cancel_left]
theorem catF_lt {n : Nat} {f g : Nat → Nat} (hf : ∀ j, f j < 256) (hg : ∀ j, g j < 256) (j : Nat) : catF n f g j < 256 := by
  unfold catF; split
  · exact hf j
  · exact hg _
def byteOf (s : ByteArray) (i : Nat) : Nat := ((s.data.toList[i]?).getD 0).toNat
theorem byteOf_lt (s : ByteArray) (i : Nat) : byteOf s i < 256 := UInt8.toNat_lt _
theorem byteOf_eq (s : ByteArray) : bytesB s.size (byteOf s) = s := (bytes_of s).symm
theorem num_digits (v : Nat) (F : Nat → Nat) (hF : ∀ j, j < nB v → F j = v / 256 ^ (nB v - 1 - j) % 256) : ∀ k, k ≤ nB v → valB F k = v / 256 ^ (nB v - k)
  | 0, _ => by rw [valB, Nat.sub_zero, Nat.div_eq_of_lt (nB_lt v)]
  | k + 1, h => by
    rw [valB, num_digits v F hF k (by omega), hF k (by omega), show nB v - k = nB v - (k + 1) + 1 from by omega, Nat.pow_succ, ← Nat.div_div_eq_div_mul, show nB v - 1 - k = nB v - (k + 1) from by omega]
    generalize v / 256 ^ (nB v - (k + 1)) = q
    omega
theorem num_read (m v : Nat) (f : Nat → Nat) (hv : v < 2 ^ 64) (hm : nB v + 1 ≤ m) (hf : ∀ j, j ≤ nB v → f j = numF v j) : numE m f = 0 ∧ valB (dropF 1 f) (f 0) = v ∧ f 0 = nB v := by
  have h0 : f 0 = nB v := by rw [hf 0 (by omega)]; unfold numF; rfl
  have h8 := nB_8 v hv
  refine ⟨?_, ?_, h0⟩
  · unfold numE
    rw [if_neg (by omega), h0, if_neg (by omega), if_neg (by omega), if_neg]
    rintro ⟨hp, h1⟩
    rw [hf 1 (by omega)] at h1
    unfold numF at h1
    rw [if_neg (by omega)] at h1
    have hv0 : 0 < v := by
      rcases Nat.eq_zero_or_pos v with h | h
      · rw [h] at hp; exact absurd hp (by decide)
      · exact h
    have a1 := nB_le v hv0
    have a2 := nB_lt v
    have hpw : 0 < 256 ^ (nB v - 1) := Nat.pow_pos (by omega)
    have a3 : 1 ≤ v / 256 ^ (nB v - 1) := (Nat.le_div_iff_mul_le hpw).2 (by omega)
    have a4 : v / 256 ^ (nB v - 1) < 256 := by
      refine (Nat.div_lt_iff_lt_mul hpw).2 ?_
      rw [show 256 * 256 ^ (nB v - 1) = 256 ^ nB v from by rw [Nat.mul_comm, ← Nat.pow_succ, show (nB v - 1).succ = nB v from by omega]]
      exact a2
    omega
  · rw [h0, num_digits v (dropF 1 f) (fun j hj => by
      unfold dropF
      rw [hf (1 + j) (by omega)]
      unfold numF
      rw [if_neg (by omega), show nB v - (1 + j) = nB v - 1 - j from by omega]) (nB v) (Nat.le_refl _), Nat.sub_self, Nat.pow_zero, Nat.div_one]
/-- A number's bytes. -/
def numB (v : Nat) : ByteArray := bytesB (nB v + 1) (numF v)
theorem Number_put (b v : Nat) (X : ByteArray) (hv : v < 2 ^ 64) : Takes 24 #[.pointer (some ⟨b, 0, none⟩)] b (numB v ++ X) (.tuple #[.int .u64 (v : Int), .int .i64 0]) X := by
  have hf : ∀ j, catF (nB v + 1) (numF v) (byteOf X) j < 256 := catF_lt (fun j => numF_lt v j hv) (byteOf_lt X)
  obtain ⟨h1, h2, h3⟩ := num_read (nB v + 1 + X.size) v (catF (nB v + 1) (numF v) (byteOf X)) hv (by omega) (fun j hj => by unfold catF; rw [if_pos (by omega)])
  have h := Number_ok b (nB v + 1 + X.size) _ hf h1
  rw [h2, h3, show 1 + nB v = nB v + 1 from Nat.add_comm .., drop_cat, show nB v + 1 + X.size - 1 - nB v = X.size from by omega, ← catF_eq, byteOf_eq] at h
  exact h
theorem Text_put (b : Nat) (s X : ByteArray) (hs : s.size ≤ 4096) : Takes 25 #[.pointer (some ⟨b, 0, none⟩)] b (numB s.size ++ (s ++ X)) (.tuple #[.string s, .int .i64 0]) X := by
  obtain ⟨k, hk⟩ : ∃ k, s.size = k := ⟨_, rfl⟩
  have hv : k < 2 ^ 64 := by omega
  have hf : ∀ j, catF (nB k + 1) (numF k) (catF k (byteOf s) (byteOf X)) j < 256 := catF_lt (fun j => numF_lt k j hv) (catF_lt (byteOf_lt s) (byteOf_lt X))
  obtain ⟨h1, h2, h3⟩ := num_read (nB k + 1 + (k + X.size)) k (catF (nB k + 1) (numF k) (catF k (byteOf s) (byteOf X))) hv (by omega) (fun j hj => by unfold catF; rw [if_pos (by omega)])
  have ht : txtN (catF (nB k + 1) (numF k) (catF k (byteOf s) (byteOf X))) = k := h2
  have he : txtE (nB k + 1 + (k + X.size)) (catF (nB k + 1) (numF k) (catF k (byteOf s) (byteOf X))) = 0 := by
    unfold txtE
    rw [if_neg (by omega), ht, if_neg (by omega), h3, if_neg (by omega)]
  have h := Text_ok b _ _ hf he
  have e1 : bytesB k (dropF (nB k + 1) (catF (nB k + 1) (numF k) (catF k (byteOf s) (byteOf X)))) = s := by
    rw [drop_cat, ← hk, ← byteOf_eq s]
    rw [byteOf_eq s]
    conv => rhs; rw [← byteOf_eq s]
    exact bytesB_congr fun j hj => by unfold catF; rw [if_pos hj]
  have e2 : dropF (nB k + 1 + k) (catF (nB k + 1) (numF k) (catF k (byteOf s) (byteOf X))) = byteOf X := by
    funext j
    unfold dropF catF
    rw [if_neg (by omega), if_neg (by omega)]
    congr 1
    omega
  rw [ht, h3, show 1 + nB k = nB k + 1 from Nat.add_comm .., e1, e2, show nB k + 1 + (k + X.size) - 1 - nB k - k = X.size from by omega, ← catF_eq, ← catF_eq, byteOf_eq] at h
  rw [← hk, byteOf_eq] at h
  exact h
theorem Place_put (b a : Nat) (X : ByteArray) : Takes 30 #[.pointer (some ⟨b, 0, none⟩)] b (bytesB 20 (dig a) ++ X) (.tuple #[idV a, .int .i64 0]) X := by
  have h := Place_ok b (20 + X.size) a (catF 20 (dig a) (byteOf X)) (by omega) (fun j hj => by unfold catF; rw [if_pos hj])
  rw [drop_cat, show 20 + X.size - 20 = X.size from by omega, ← catF_eq, byteOf_eq] at h
  exact h
/-- A label's bytes. -/
def labB (n b : Nat) : ByteArray := bytesB ((n + 7) / 8 + 1) (labF n b)
theorem lab_digits (n b : Nat) (hb : b < 2 ^ 64) (F : Nat → Nat) (c : Nat) (hc : c ≤ 8) (hF : ∀ j, j < c → F j = b / 2 ^ (64 - 8 * (j + 1)) % 256) : ∀ k, k ≤ c → labAcc F k = b / 2 ^ (64 - 8 * k) * 2 ^ (64 - 8 * k)
  | 0, _ => by rw [labAcc, show 64 - 8 * 0 = 64 from rfl, Nat.div_eq_of_lt hb, Nat.zero_mul]
  | k + 1, h => by
    rw [labAcc, lab_digits n b hb F c hc hF k (by omega), hF k (by omega), show 64 - 8 * (k + 1) = 56 - 8 * k from by omega, show 64 - 8 * k = 56 - 8 * k + 8 from by omega, Nat.pow_add, ← Nat.div_div_eq_div_mul]
    generalize b / 2 ^ (56 - 8 * k) = q
    generalize 2 ^ (56 - 8 * k) = p
    rw [Nat.mul_comm p (2 ^ 8), ← Nat.mul_assoc, ← Nat.add_mul]
    congr 1
    omega
theorem Label_put (b n k : Nat) (X : ByteArray) (hn : n ≤ 64) (hk : k < 2 ^ 64) (hl : isL (n : Int) k = true) : Takes 26 #[.pointer (some ⟨b, 0, none⟩)] b (labB n k ++ X) (.tuple #[labV (n : Int) k, .int .i64 0]) X := by
  obtain ⟨c, hc⟩ : ∃ c, (n + 7) / 8 = c := ⟨_, rfl⟩
  have hlt : ∀ j, labF n k j < 256 := fun j => by unfold labF; split <;> omega
  have hf : ∀ j, catF (c + 1) (labF n k) (byteOf X) j < 256 := catF_lt hlt (byteOf_lt X)
  have h0 : catF (c + 1) (labF n k) (byteOf X) 0 = n := by unfold catF labF; rw [if_pos (by omega), if_pos rfl]
  have hN : labN (catF (c + 1) (labF n k) (byteOf X)) = c := by unfold labN; rw [h0, hc]
  have hacc : labAcc (dropF 1 (catF (c + 1) (labF n k) (byteOf X))) c = k := by
    rw [lab_digits n k hk _ c (by omega) (fun j hj => by
      unfold dropF catF labF
      rw [if_pos (by omega), if_neg (by omega), show 1 + j = j + 1 from Nat.add_comm ..]) c (Nat.le_refl _)]
    have hm := isL_mod n k hl
    refine Nat.div_mul_cancel (Nat.dvd_of_mod_eq_zero ?_)
    have hd : 2 ^ (64 - 8 * c) ∣ 2 ^ (64 - n) := Nat.pow_dvd_pow 2 (by omega)
    exact Nat.mod_eq_zero_of_dvd (Nat.dvd_trans hd (Nat.dvd_of_mod_eq_zero hm))
  have he : labE (c + 1 + X.size) (catF (c + 1) (labF n k) (byteOf X)) = 0 := by
    unfold labE
    rw [if_neg (by omega), h0, if_neg (by omega), hN, if_neg (by omega), hacc, if_pos hl]
  have h := Label_ok b _ _ hf he
  rw [hN, h0, hacc, show 1 + c = c + 1 from Nat.add_comm .., drop_cat, show c + 1 + X.size - 1 - c = X.size from by omega, ← catF_eq, byteOf_eq] at h
  unfold labB
  rw [hc]
  exact h
end Go.Proofs.Ytijkmbebfodhdaa
