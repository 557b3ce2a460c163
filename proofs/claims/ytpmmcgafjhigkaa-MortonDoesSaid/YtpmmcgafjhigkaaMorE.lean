/-
  Morton keys: plain laws, continued. Keys rise as the coordinates do.
-/
import Derived.Test.YtpmmcgafjhigkaaMorD
namespace Go.Proofs.Ytpmmcgafjhigkaa
set_option linter.unusedSimpArgs false
set_option linter.unusedVariables false
set_option maxRecDepth 20000

theorem lt_bit : ∀ (u x : Nat), x < u → ∃ k, x.testBit k = false ∧ u.testBit k = true ∧ ∀ j, k < j → x.testBit j = u.testBit j := by
  intro u
  induction u using Nat.strongRecOn with
  | ind u ih =>
    intro x hx
    by_cases h : x / 2 < u / 2
    · obtain ⟨k, h1, h2, h3⟩ := ih (u / 2) (by omega) (x / 2) h
      refine ⟨k + 1, by rw [Nat.testBit_succ]; exact h1, by rw [Nat.testBit_succ]; exact h2, fun j hj => ?_⟩
      obtain ⟨i, rfl⟩ : ∃ i, j = i + 1 := ⟨j - 1, by omega⟩
      rw [Nat.testBit_succ, Nat.testBit_succ]
      exact h3 i (by omega)
    · refine ⟨0, ?_, ?_, fun j hj => ?_⟩
      · rw [Nat.testBit_zero, decide_eq_false_iff_not]; omega
      · rw [Nat.testBit_zero, decide_eq_true_eq]; omega
      · obtain ⟨i, rfl⟩ : ∃ i, j = i + 1 := ⟨j - 1, by omega⟩
        rw [Nat.testBit_succ, Nat.testBit_succ, show x / 2 = u / 2 from by omega]

theorem lt_of_bit : ∀ (k x u : Nat), x.testBit k = false → u.testBit k = true → (∀ j, k < j → x.testBit j = u.testBit j) → x < u
  | 0, x, u, h1, h2, h3 => by
    have e : x / 2 = u / 2 := Nat.eq_of_testBit_eq fun i => by rw [← Nat.testBit_succ, ← Nat.testBit_succ]; exact h3 _ (by omega)
    rw [Nat.testBit_zero, decide_eq_false_iff_not] at h1
    rw [Nat.testBit_zero, decide_eq_true_eq] at h2
    omega
  | k + 1, x, u, h1, h2, h3 => by
    rw [Nat.testBit_succ] at h1 h2
    have := lt_of_bit k (x / 2) (u / 2) h1 h2 fun j hj => by rw [← Nat.testBit_succ, ← Nat.testBit_succ]; exact h3 _ (by omega)
    omega

theorem wv_up_x (x u y : Nat) (hx : x < 2 ^ 32) (hu : u < 2 ^ 32) (hy : y < 2 ^ 32) (h : x < u) : wv x y < wv u y := by
  obtain ⟨k, h1, h2, h3⟩ := lt_bit u x h
  refine lt_of_bit (2 * k) _ _ ?_ ?_ fun j hj => ?_
  · rw [wv_bit x y _ hx hy, if_pos (by omega), show 2 * k / 2 = k from by omega]; exact h1
  · rw [wv_bit u y _ hu hy, if_pos (by omega), show 2 * k / 2 = k from by omega]; exact h2
  · rw [wv_bit x y _ hx hy, wv_bit u y _ hu hy]
    split
    · exact h3 _ (by omega)
    · rfl
theorem wv_up_y (x y v : Nat) (hx : x < 2 ^ 32) (hy : y < 2 ^ 32) (hv : v < 2 ^ 32) (h : y < v) : wv x y < wv x v := by
  obtain ⟨k, h1, h2, h3⟩ := lt_bit v y h
  refine lt_of_bit (2 * k + 1) _ _ ?_ ?_ fun j hj => ?_
  · rw [wv_bit x y _ hx hy, if_neg (by omega), show (2 * k + 1) / 2 = k from by omega]; exact h1
  · rw [wv_bit x v _ hx hv, if_neg (by omega), show (2 * k + 1) / 2 = k from by omega]; exact h2
  · rw [wv_bit x y _ hx hy, wv_bit x v _ hx hv]
    split
    · rfl
    · exact h3 _ (by omega)
theorem mono_x (x u y : Nat) (hx : x < 2 ^ 32) (hu : u < 2 ^ 32) (hy : y < 2 ^ 32) : (decide ((x : Int) < (u : Int)) == decide (((wv x y : Nat) : Int) < ((wv u y : Nat) : Int))) = true := by
  rw [beq_iff_eq, Bool.eq_iff_iff]
  simp only [decide_eq_true_eq]
  constructor
  · intro h; have := wv_up_x x u y hx hu hy (by omega); omega
  · intro h
    apply Decidable.byContradiction
    intro hn
    rcases Nat.lt_or_ge u x with h' | h'
    · have := wv_up_x u x y hu hx hy h'; omega
    · have : u = x := by omega
      subst this; omega
theorem mono_y (x y v : Nat) (hx : x < 2 ^ 32) (hy : y < 2 ^ 32) (hv : v < 2 ^ 32) : (decide ((y : Int) < (v : Int)) == decide (((wv x y : Nat) : Int) < ((wv x v : Nat) : Int))) = true := by
  rw [beq_iff_eq, Bool.eq_iff_iff]
  simp only [decide_eq_true_eq]
  constructor
  · intro h; have := wv_up_y x y v hx hy hv (by omega); omega
  · intro h
    apply Decidable.byContradiction
    intro hn
    rcases Nat.lt_or_ge v y with h' | h'
    · have := wv_up_y x v y hx hv hy h'; omega
    · have : v = y := by omega
      subst this; omega
end Go.Proofs.Ytpmmcgafjhigkaa
