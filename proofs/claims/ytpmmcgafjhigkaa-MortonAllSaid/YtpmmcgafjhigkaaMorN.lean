/-
  Morton keys: plain laws, continued. How many keys of a rectangle lie below one.
-/
import Derived.Test.YtpmmcgafjhigkaaMorL
namespace Go.Proofs.Ytpmmcgafjhigkaa
set_option linter.unusedSimpArgs false
set_option linter.unusedVariables false
set_option maxRecDepth 20000

def sumN (f : Nat → Nat) : Nat → Nat
  | 0 => 0
  | n + 1 => sumN f n + f n
theorem sumN_congr {f g : Nat → Nat} : ∀ n, (∀ i, i < n → f i = g i) → sumN f n = sumN g n
  | 0, _ => rfl
  | n + 1, h => by rw [sumN, sumN, sumN_congr n fun i hi => h i (by omega), h n (by omega)]
theorem sumN_add (f g : Nat → Nat) : ∀ n, sumN (fun i => f i + g i) n = sumN f n + sumN g n
  | 0 => rfl
  | n + 1 => by rw [sumN, sumN, sumN, sumN_add f g n]; omega
theorem sumN_const (c : Nat) : ∀ n, sumN (fun _ => c) n = n * c
  | 0 => by simp [sumN]
  | n + 1 => by rw [sumN, sumN_const c n, Nat.add_mul, Nat.one_mul]
theorem sumN_le {f g : Nat → Nat} : ∀ n, (∀ i, i < n → f i ≤ g i) → sumN f n ≤ sumN g n
  | 0, _ => Nat.le_refl _
  | n + 1, h => by
    have := sumN_le n fun i hi => h i (by omega)
    have := h n (by omega)
    rw [sumN, sumN]; omega
theorem sumN_lt {f g : Nat → Nat} : ∀ n, (∀ i, i < n → f i ≤ g i) → (∃ i, i < n ∧ f i < g i) → sumN f n < sumN g n
  | 0, _, h => by obtain ⟨i, hi, _⟩ := h; omega
  | n + 1, h, ⟨i, hi, hlt⟩ => by
    have h1 := sumN_le n fun i hi => h i (by omega)
    have h2 := h n (by omega)
    rw [sumN, sumN]
    by_cases e : i = n
    · subst e; omega
    · have := sumN_lt n (fun i hi => h i (by omega)) ⟨i, by omega, hlt⟩
      omega
theorem sumN_zero {f : Nat → Nat} : ∀ n, (∀ i, i < n → f i = 0) → sumN f n = 0
  | 0, _ => rfl
  | n + 1, h => by rw [sumN, sumN_zero n fun i hi => h i (by omega), h n (by omega)]
theorem sumN_one {f : Nat → Nat} (j : Nat) : ∀ n, j < n → (∀ i, i < n → f i = if i = j then 1 else 0) → sumN f n = 1
  | 0, h, _ => by omega
  | n + 1, h, hf => by
    rw [sumN, hf n (by omega)]
    by_cases e : n = j
    · subst e
      rw [if_pos rfl, sumN_zero n fun i hi => by rw [hf i (by omega), if_neg (by omega)]]
    · rw [if_neg e, sumN_one j n (by omega) fun i hi => hf i (by omega)]

/-- How many keys of a rectangle lie below one. -/
def cnt (a c W H z : Nat) : Nat := sumN (fun i => sumN (fun j => if wv (a + i) (c + j) < z then 1 else 0) H) W

section
variable {a b c d W H : Nat} (ha : a < 2 ^ 32) (hb : b < 2 ^ 32) (hc : c < 2 ^ 32) (hd : d < 2 ^ 32) (hW : W = b - a + 1) (hH : H = d - c + 1) (hab : a ≤ b) (hcd : c ≤ d)
include ha hb hc hd hW hH hab hcd
theorem key_in (i j : Nat) (hi : i < W) (hj : j < H) : inB (wv a c) (wv b d) (wv (a + i) (c + j)) ∧ wv (a + i) (c + j) < 2 ^ 64 := by
  have h1 := wv_lt (a + i) (c + j) (by omega)
  obtain ⟨q1, q2⟩ := ga_wv (a + i) (c + j) (by omega) (by omega) h1
  rw [inB_rect a b c d _ ha hb hc hd, q1, q2]
  omega
theorem key_at (k : Nat) (hk : k < 2 ^ 64) (h : inB (wv a c) (wv b d) k) : ∃ i j, i < W ∧ j < H ∧ k = wv (a + i) (c + j) := by
  rw [inB_rect a b c d k ha hb hc hd] at h
  refine ⟨ga k - a, ga (k / 2) - c, by omega, by omega, ?_⟩
  rw [show a + (ga k - a) = ga k from by omega, show c + (ga (k / 2) - c) = ga (k / 2) from by omega, wv_ga k hk]
theorem key_inj (i j i' j' : Nat) (hi : i < W) (hj : j < H) (hi' : i' < W) (hj' : j' < H) (h : wv (a + i) (c + j) = wv (a + i') (c + j')) : i = i' ∧ j = j' := by
  have _ := ha
  have _ := hc
  obtain ⟨q1, q2⟩ := ga_wv (a + i) (c + j) (by omega) (by omega) (wv_lt _ _ (by omega))
  obtain ⟨q3, q4⟩ := ga_wv (a + i') (c + j') (by omega) (by omega) (wv_lt _ _ (by omega))
  rw [h] at q1 q2
  omega
theorem cnt_lt (z k : Nat) (hk : k < 2 ^ 64) (hin : inB (wv a c) (wv b d) k) (hz : z ≤ k) : cnt a c W H z < W * H := by
  obtain ⟨i, j, hi, hj, rfl⟩ := key_at ha hb hc hd hW hH hab hcd k hk hin
  rw [← sumN_const H W]
  unfold cnt
  have row : ∀ i, sumN (fun j => if wv (a + i) (c + j) < z then 1 else 0) H ≤ H := fun i => by
    have := sumN_le (f := fun j => if wv (a + i) (c + j) < z then 1 else 0) (g := fun _ => 1) H fun j hj => by split <;> omega
    rw [sumN_const] at this
    omega
  refine sumN_lt W (fun i hi => row i) ⟨i, hi, ?_⟩
  have := sumN_lt (f := fun j => if wv (a + i) (c + j) < z then 1 else 0) (g := fun _ => 1) H (fun j hj => by split <;> omega) ⟨j, hj, by rw [if_neg (by omega)]; omega⟩
  rw [sumN_const] at this
  omega
theorem cnt_full (z : Nat) (h : ∀ k, k < 2 ^ 64 → inB (wv a c) (wv b d) k → z ≤ k → False) : cnt a c W H z = W * H := by
  rw [← sumN_const H W]
  unfold cnt
  refine sumN_congr W fun i hi => ?_
  have : sumN (fun j => if wv (a + i) (c + j) < z then 1 else 0) H = sumN (fun _ => 1) H := sumN_congr H fun j hj => by
    obtain ⟨h1, h2⟩ := key_in ha hb hc hd hW hH hab hcd i j hi hj
    rw [if_pos (Nat.lt_of_not_le fun hle => h _ h2 h1 hle)]
  rw [this, sumN_const, Nat.mul_one]
theorem cnt_next (z v : Nat) (hv : v < 2 ^ 64) (hin : inB (wv a c) (wv b d) v) (hz : z ≤ v) (hmin : ∀ k, k < 2 ^ 64 → inB (wv a c) (wv b d) k → z ≤ k → v ≤ k) : cnt a c W H (v + 1) = cnt a c W H z + 1 := by
  obtain ⟨i, j, hi, hj, hvk⟩ := key_at ha hb hc hd hW hH hab hcd v hv hin
  have hone : sumN (fun i' => sumN (fun j' => if wv (a + i') (c + j') = v then 1 else 0) H) W = 1 := by
    refine sumN_one i W hi fun i' hi' => ?_
    split
    · rename_i e
      subst e
      refine sumN_one j H hj fun j' hj' => ?_
      by_cases e : j' = j
      · subst e; rw [if_pos rfl, if_pos hvk.symm]
      · rw [if_neg e, if_neg fun h => e (key_inj ha hb hc hd hW hH hab hcd i' j' i' j hi' hj' hi' hj (h.trans hvk)).2]
    · rename_i e
      refine sumN_zero H fun j' hj' => ?_
      rw [if_neg fun h => e (key_inj ha hb hc hd hW hH hab hcd i' j' i j hi' hj' hi hj (h.trans hvk)).1]
  rw [← hone]
  unfold cnt
  rw [← sumN_add]
  refine sumN_congr W fun i' hi' => ?_
  rw [← sumN_add]
  refine sumN_congr H fun j' hj' => ?_
  obtain ⟨h1, h2⟩ := key_in ha hb hc hd hW hH hab hcd i' j' hi' hj'
  have := hmin _ h2 h1
  by_cases e1 : wv (a + i') (c + j') < z
  · rw [if_pos e1, if_pos (by omega), if_neg (by omega)]
  · by_cases e2 : wv (a + i') (c + j') = v
    · rw [if_neg e1, if_pos e2, if_pos (by omega)]
    · rw [if_neg e1, if_neg e2, if_neg (by omega)]
end
theorem cnt_zero (a c W H : Nat) : cnt a c W H 0 = 0 := by
  unfold cnt
  exact sumN_zero W fun i hi => sumN_zero H fun j hj => by rw [if_neg (by omega)]
end Go.Proofs.Ytpmmcgafjhigkaa
