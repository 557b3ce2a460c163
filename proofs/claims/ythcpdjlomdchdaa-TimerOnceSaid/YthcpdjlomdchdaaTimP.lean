/-
  Timers: what a heap is (plain).
-/
import Derived.Test.YthcpdjlomdchdaaTimA
namespace Go.Proofs.Ythcpdjlomdchdaa
set_option linter.unusedVariables false

theorem ahB_true (a b : Int × Int) : ahB a b = true ↔ a.2 < b.2 ∨ (a.2 = b.2 ∧ a.1 < b.1) := by unfold ahB; simp
theorem ahB_false (a b : Int × Int) : ahB a b = false ↔ ¬ (a.2 < b.2 ∨ (a.2 = b.2 ∧ a.1 < b.1)) := by rw [← ahB_true]; cases ahB a b <;> simp
theorem ok_trans {a b c : Int × Int} (h : ahB a b = false) (k : ahB b c = false) : ahB a c = false := by rw [ahB_false] at *; omega
theorem ok_of_ah {a b : Int × Int} (h : ahB a b = true) : ahB b a = false := by rw [ahB_false]; rw [ahB_true] at h; omega
theorem ok_refl (a : Int × Int) : ahB a a = false := by rw [ahB_false]; omega

def par (k : Nat) : Nat := (k - 1) / 2
def swapH (h : Nat → Int × Int) (i k : Nat) : Nat → Int × Int := putH (putH h i (h k)) k (h i)
theorem swapH_l (h : Nat → Int × Int) (i k : Nat) : swapH h i k i = h k := by unfold swapH putH; by_cases hik : i = k <;> simp [hik]
theorem swapH_r (h : Nat → Int × Int) (i k : Nat) : swapH h i k k = h i := by unfold swapH putH; simp
theorem swapH_o (h : Nat → Int × Int) {i k j : Nat} (hi : j ≠ i) (hk : j ≠ k) : swapH h i k j = h j := by unfold swapH putH; simp [hi, hk]
def Heap (n : Nat) (h : Nat → Int × Int) : Prop := ∀ k, 0 < k → k < n → ahB (h k) (h (par k)) = false
/-- A heap, but for i and what stands above it or below it. -/
def Up (n : Nat) (h : Nat → Int × Int) (i : Nat) : Prop := (∀ k, 0 < k → k < n → k ≠ i → par k ≠ i → ahB (h k) (h (par k)) = false) ∧ ∀ k, 0 < k → k < n → par k = i → 0 < i → ahB (h k) (h (par i)) = false
/-- A heap, but for i and what stands below it. -/
def Dn (n : Nat) (h : Nat → Int × Int) (i : Nat) : Prop := (∀ k, 0 < k → k < n → par k ≠ i → ahB (h k) (h (par k)) = false) ∧ ∀ k, 0 < k → k < n → par k = i → 0 < i → ahB (h k) (h (par i)) = false
section
variable {n i : Nat} {h : Nat → Int × Int}
theorem par_lt {k : Nat} (h : 0 < k) : par k < k := by unfold par; omega
theorem Up.step (hU : Up n h i) (hi : 0 < i) (hn : i < n) (ha : ahB (h i) (h (par i)) = true) : Up n (swapH h i (par i)) (par i) := by
  have hp := par_lt hi
  have up : ∀ k, 0 < k → k < n → k ≠ i → par k = par i → ahB (h k) (h (par i)) = false := fun k h1 h2 h3 h4 => by
    have := hU.1 k h1 h2 h3 (by omega)
    rwa [h4] at this
  refine ⟨fun k h0 hk hkp hkk => ?_, fun k h0 hk hkk hpp => ?_⟩
  · by_cases hki : k = i
    · subst hki; omega
    · rw [swapH_o h hki hkp]
      by_cases hpi : par k = i
      · rw [hpi, swapH_l]; exact hU.2 k h0 hk hpi hi
      · rw [swapH_o h hpi hkk]; exact hU.1 k h0 hk hki hpi
  · have hppp := par_lt hpp
    rw [swapH_o h (i := i) (k := par i) (j := par (par i)) (by omega) (by omega)]
    have hb : ahB (h (par i)) (h (par (par i))) = false := hU.1 (par i) hpp (by omega) (by omega) (by omega)
    by_cases hki : k = i
    · subst hki; rw [swapH_l]; exact hb
    · rw [swapH_o h hki (by intro e; subst e; omega)]
      exact ok_trans (up k h0 hk hki hkk) hb
theorem Up.stop (hU : Up n h i) (hs : i = 0 ∨ ahB (h i) (h (par i)) = false) : Dn n h i := by
  refine ⟨fun k h0 hk hkp => ?_, hU.2⟩
  by_cases hki : k = i
  · subst hki
    rcases hs with hs | hs
    · omega
    · exact hs
  · exact hU.1 k h0 hk hki hkp
theorem Dn.step {b : Nat} (hD : Dn n h i) (hb0 : 0 < b) (hb : par b = i) (hbn : b < n) (hib : i < b) (ha : ahB (h b) (h i) = true) (hc : ∀ c, 0 < c → c < n → par c = i → ahB (h c) (h b) = false) : Dn n (swapH h i b) b := by
  refine ⟨fun k h0 hk hkp => ?_, fun k h0 hk hkp _ => ?_⟩
  · by_cases hki : k = i
    · subst hki
      have hpk := par_lt h0
      rw [swapH_l, swapH_o h (by omega) hkp]
      exact hD.2 b hb0 hbn hb h0
    · by_cases hkb : k = b
      · subst hkb; rw [swapH_r, hb, swapH_l]; exact ok_of_ah ha
      · rw [swapH_o h hki hkb]
        by_cases hpi : par k = i
        · rw [hpi, swapH_l]; exact hc k h0 hk hpi
        · rw [swapH_o h hpi hkp]; exact hD.1 k h0 hk hpi
  · have hpk := par_lt h0
    rw [hb, swapH_l, swapH_o h (by omega) (by omega), ← hkp]
    exact hD.1 k h0 hk (by omega)
theorem Dn.stop (hD : Dn n h i) (hc : ∀ c, 0 < c → c < n → par c = i → ahB (h c) (h i) = false) : Heap n h := fun k h0 hk => by
  by_cases hpi : par k = i
  · rw [hpi]; exact hc k h0 hk hpi
  · exact hD.1 k h0 hk hpi
theorem Heap.put (hH : Heap n h) (x : Int × Int) : Up n (putH h i x) i := by
  have o : ∀ k, k ≠ i → putH h i x k = h k := fun k hk => by unfold putH; rw [if_neg hk]
  refine ⟨fun k h0 hk hki hpi => ?_, fun k h0 hk hpi hi => ?_⟩
  · rw [o k hki, o _ hpi]; exact hH k h0 hk
  · have := par_lt h0
    have := par_lt hi
    rw [o k (by omega), o _ (by omega)]
    have h1 := hH k h0 hk
    rw [hpi] at h1
    exact ok_trans h1 (hH i hi (by omega))
theorem Heap.push (hH : Heap n h) (x : Int × Int) : Up (n + 1) (putH h n x) n := by
  have o : ∀ k, k ≠ n → putH h n x k = h k := fun k hk => by unfold putH; rw [if_neg hk]
  refine ⟨fun k h0 hk hki hpi => ?_, fun k h0 hk hpi hi => ?_⟩
  · rw [o k hki, o _ hpi]; exact hH k h0 (by omega)
  · have := par_lt h0
    omega
theorem Heap.cut (hH : Heap (n + 1) h) (hi : i < n) : Up n (swapH h i n) i := by
  refine ⟨fun k h0 hk hki hpi => ?_, fun k h0 hk hpi hi0 => ?_⟩
  · have := par_lt h0
    rw [swapH_o h hki (by omega), swapH_o h hpi (by omega)]; exact hH k h0 (by omega)
  · have := par_lt h0
    have := par_lt hi0
    rw [swapH_o h (by omega) (by omega), swapH_o h (by omega) (by omega)]
    have h1 := hH k h0 (by omega)
    rw [hpi] at h1
    exact ok_trans h1 (hH i hi0 (by omega))
theorem Heap.least (hH : Heap n h) : ∀ k, k < n → ahB (h k) (h 0) = false := by
  intro k
  induction k using Nat.strongRecOn with
  | _ k ih =>
    intro hk
    by_cases h0 : k = 0
    · subst h0; exact ok_refl _
    · have := par_lt (k := k) (by omega)
      exact ok_trans (hH k (by omega) hk) (ih (par k) this (by omega))
end
/-- Where each stands. -/
def Con (n : Nat) (h : Nat → Int × Int) (f : Int → Option Int) : Prop := ∀ (x v : Int), f x = some v ↔ ∃ i, i < n ∧ v = (i : Int) ∧ (h i).1 = x
def In (n : Nat) (h : Nat → Int × Int) (x : Int × Int) : Prop := ∃ i, i < n ∧ h i = x
section
variable {n i k : Nat} {h : Nat → Int × Int} {f : Int → Option Int}
theorem Con.at (hC : Con n h f) {i : Nat} (hi : i < n) : f (h i).1 = some (i : Int) := (hC _ _).2 ⟨i, hi, rfl, rfl⟩
theorem Con.inj (hC : Con n h f) {i k : Nat} (hi : i < n) (hk : k < n) (e : (h i).1 = (h k).1) : i = k := by
  have := hC.at hi
  rw [e, hC.at hk] at this
  have := Option.some.inj this
  omega
theorem Con.swap (hC : Con n h f) (hi : i < n) (hk : k < n) : Con n (swapH h i k) (putM (putM f (h k).1 i) (h i).1 k) := by
  intro x v
  unfold putM
  constructor
  · intro hx
    split at hx
    · rename_i e
      exact ⟨k, hk, (Option.some.inj hx).symm, by rw [swapH_r, e]⟩
    · rename_i e
      split at hx
      · rename_i e'
        exact ⟨i, hi, (Option.some.inj hx).symm, by rw [swapH_l, e']⟩
      · rename_i e'
        obtain ⟨j, hj, rfl, rfl⟩ := (hC x v).1 hx
        have h1 : j ≠ i := fun q => by subst q; exact e rfl
        have h2 : j ≠ k := fun q => by subst q; exact e' rfl
        exact ⟨j, hj, rfl, by rw [swapH_o h h1 h2]⟩
  · rintro ⟨j, hj, rfl, rfl⟩
    by_cases h2 : j = k
    · subst h2; rw [swapH_r, if_pos rfl]
    · by_cases h1 : j = i
      · subst h1
        rw [swapH_l, if_neg, if_pos rfl]
        intro e
        exact h2 (hC.inj hk hj e).symm
      · rw [swapH_o h h1 h2, if_neg, if_neg]
        · exact hC.at hj
        · intro e; exact h2 (hC.inj hj hk e)
        · intro e; exact h1 (hC.inj hj hi e)
theorem In.swap (hi : i < n) (hk : k < n) (x : Int × Int) : In n (swapH h i k) x ↔ In n h x := by
  constructor
  · rintro ⟨j, hj, rfl⟩
    by_cases h2 : j = k
    · subst h2; exact ⟨i, hi, (swapH_r h i j).symm⟩
    · by_cases h1 : j = i
      · subst h1; exact ⟨k, hk, (swapH_l h j k).symm⟩
      · exact ⟨j, hj, (swapH_o h h1 h2).symm⟩
  · rintro ⟨j, hj, rfl⟩
    by_cases h2 : j = k
    · subst h2; exact ⟨i, hi, swapH_l h i j⟩
    · by_cases h1 : j = i
      · subst h1; exact ⟨k, hk, swapH_r h j k⟩
      · exact ⟨j, hj, swapH_o h h1 h2⟩
end
end Go.Proofs.Ythcpdjlomdchdaa
