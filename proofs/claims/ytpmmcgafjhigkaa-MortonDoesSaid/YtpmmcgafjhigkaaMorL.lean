/-
  Morton keys: plain laws, continued. What Least tells is the least key of the rectangle, not below one.
-/
import Derived.Test.YtpmmcgafjhigkaaMorC
import Derived.Test.YtpmmcgafjhigkaaMorE
namespace Go.Proofs.Ytpmmcgafjhigkaa
set_option linter.unusedSimpArgs false
set_option linter.unusedVariables false
set_option maxRecDepth 20000

/-- A key's coordinate. -/
def co (p z : Nat) : Nat := if p = 0 then ga z else ga (z / 2)
theorem co_lt (p z : Nat) : co p z < 2 ^ 32 := by unfold co; split <;> exact ga_lt _
theorem co_bit (p z j : Nat) (hz : z < 2 ^ 64) (hp : p < 2) : (co p z).testBit j = (decide (j < 32) && z.testBit (2 * j + p)) := by
  unfold co
  rcases (show p = 0 ∨ p = 1 by omega) with rfl | rfl
  · rw [if_pos rfl, ga_bit _ _ hz, Nat.add_zero]
  · rw [if_neg (by omega), ga_bit _ _ (by omega), half_bit]
/-- A key lies in the box of two corners. -/
def inB (lo hi k : Nat) : Prop := ∀ p, p < 2 → co p lo ≤ co p k ∧ co p k ≤ co p hi
theorem inB_iff (lo hi k : Nat) : inB lo hi k ↔ ga lo ≤ ga k ∧ ga k ≤ ga hi ∧ ga (lo / 2) ≤ ga (k / 2) ∧ ga (k / 2) ≤ ga (hi / 2) := by
  constructor
  · intro h
    have h0 := h 0 (by omega)
    have h1 := h 1 (by omega)
    exact ⟨h0.1, h0.2, h1.1, h1.2⟩
  · rintro ⟨h0, h1, h2, h3⟩ p hp
    rcases (show p = 0 ∨ p = 1 by omega) with rfl | rfl
    · exact ⟨h0, h1⟩
    · exact ⟨h2, h3⟩
theorem wv_mono (x y u v : Nat) (hx : x < 2 ^ 32) (hy : y < 2 ^ 32) (hu : u < 2 ^ 32) (hv : v < 2 ^ 32) (h1 : x ≤ u) (h2 : y ≤ v) : wv x y ≤ wv u v := by
  have e1 : wv x y ≤ wv u y := by
    rcases Nat.lt_or_eq_of_le h1 with h | rfl
    · exact Nat.le_of_lt (wv_up_x x u y hx hu hy h)
    · exact Nat.le_refl _
  have e2 : wv u y ≤ wv u v := by
    rcases Nat.lt_or_eq_of_le h2 with h | rfl
    · exact Nat.le_of_lt (wv_up_y u y v hu hy hv h)
    · exact Nat.le_refl _
  omega
theorem key_mono (k l : Nat) (hk : k < 2 ^ 64) (hl : l < 2 ^ 64) (h : ∀ p, p < 2 → co p k ≤ co p l) : k ≤ l := by
  rw [← wv_ga k hk, ← wv_ga l hl]
  exact wv_mono _ _ _ _ (ga_lt _) (ga_lt _) (ga_lt _) (ga_lt _) (h 0 (by omega)) (h 1 (by omega))

theorem bl_bit0 : ∀ p : Fin 2, ∀ i : Fin 64, (6148914691236517205 * 2 ^ p.1 % 2 ^ 64).testBit i.1 = decide (i.1 % 2 = p.1) := by decide +kernel
theorem bl_bit (n i : Nat) (hn : n < 64) : (bl n).testBit i = (decide (i < n) && decide (i % 2 = n % 2)) := by
  rw [bl_eq, Nat.testBit_and, Nat.testBit_two_pow_sub_one]
  by_cases hi : i < n
  · have := bl_bit0 ⟨n % 2, by omega⟩ ⟨i, by omega⟩
    simp only at this
    rw [this, decide_eq_true hi, Bool.and_true, Bool.true_and]
  · rw [decide_eq_false hi, Bool.and_false, Bool.false_and]
def nlo (n lo : Nat) : Nat := (lo &&& (2 ^ 64 - 1 - bl n)) ||| 2 ^ n
def nhi (n hi : Nat) : Nat := (hi &&& (2 ^ 64 - 1 - 2 ^ n)) ||| bl n
theorem far64 (z j : Nat) (hz : z < 2 ^ 64) (h : ¬ j < 64) : z.testBit j = false := Nat.testBit_lt_two_pow (Nat.lt_of_lt_of_le hz (Nat.pow_le_pow_right (by omega) (by omega)))
theorem nlo_lt (n lo : Nat) (hn : n < 64) (hlo : lo < 2 ^ 64) : nlo n lo < 2 ^ 64 :=
  Nat.or_lt_two_pow (Nat.lt_of_le_of_lt Nat.and_le_left hlo) (pow64_lt n hn)
theorem nhi_lt (n hi : Nat) (hhi : hi < 2 ^ 64) : nhi n hi < 2 ^ 64 :=
  Nat.or_lt_two_pow (Nat.lt_of_le_of_lt Nat.and_le_left hhi) (bl_lt n)
theorem nlo_bit (n lo i : Nat) (hn : n < 64) (hlo : lo < 2 ^ 64) : (nlo n lo).testBit i = ((lo.testBit i && !(decide (i < n) && decide (i % 2 = n % 2))) || decide (n = i)) := by
  have hb := bl_lt n
  rw [nlo, Nat.testBit_or, Nat.testBit_and, Nat.testBit_two_pow, show 2 ^ 64 - 1 - bl n = 2 ^ 64 - (bl n + 1) from by omega, Nat.testBit_two_pow_sub_succ hb, bl_bit n i hn]
  by_cases h : i < 64
  · rw [decide_eq_true h, Bool.true_and]
  · rw [far64 lo i hlo h, Bool.false_and, Bool.false_and]
theorem nhi_bit (n hi i : Nat) (hn : n < 64) (hhi : hi < 2 ^ 64) : (nhi n hi).testBit i = ((hi.testBit i && !decide (n = i)) || (decide (i < n) && decide (i % 2 = n % 2))) := by
  have hb := pow64_lt n hn
  rw [nhi, Nat.testBit_or, Nat.testBit_and, show 2 ^ 64 - 1 - 2 ^ n = 2 ^ 64 - (2 ^ n + 1) from by omega, Nat.testBit_two_pow_sub_succ hb, Nat.testBit_two_pow, bl_bit n i hn]
  by_cases h : i < 64
  · rw [decide_eq_true h, Bool.true_and]
  · rw [far64 hi i hhi h, Bool.false_and, Bool.false_and]

/-- Where the box parts: the least coordinate of the upper half. -/
def mid (n lo : Nat) : Nat := 2 ^ (n / 2 + 1) * (co (n % 2) lo / 2 ^ (n / 2 + 1)) + 2 ^ (n / 2)
theorem mid_pos (n lo : Nat) : 0 < mid n lo := by
  have : 0 < 2 ^ (n / 2) := Nat.pow_pos (by omega)
  unfold mid; omega
theorem pow_half (j : Nat) : 2 ^ j < 2 ^ (j + 1) := Nat.pow_lt_pow_right (by omega) (by omega)
theorem nlo_co (n lo q : Nat) (hn : n < 64) (hlo : lo < 2 ^ 64) (hq : q < 2) : co q (nlo n lo) = if q = n % 2 then mid n lo else co q lo := by
  split
  · rename_i h
    subst h
    apply Nat.eq_of_testBit_eq
    intro i
    rw [co_bit _ _ _ (nlo_lt n lo hn hlo) hq, nlo_bit _ _ _ hn hlo, mid, Nat.testBit_two_pow_mul_add _ (pow_half _), Nat.testBit_two_pow]
    split
    · rename_i hi
      by_cases hij : n / 2 = i
      · rw [decide_eq_true hij, decide_eq_true (show n = 2 * i + n % 2 by omega), Bool.or_true, decide_eq_true (show i < 32 by omega)]; rfl
      · rw [decide_eq_false hij, decide_eq_false (show ¬ n = 2 * i + n % 2 by omega), decide_eq_true (show 2 * i + n % 2 < n by omega), decide_eq_true (show (2 * i + n % 2) % 2 = n % 2 by omega)]; simp
    · rename_i hi
      rw [Nat.testBit_div_two_pow, show i - (n / 2 + 1) + (n / 2 + 1) = i from by omega, co_bit _ _ _ hlo hq, decide_eq_false (show ¬ n = 2 * i + n % 2 by omega), decide_eq_false (show ¬ 2 * i + n % 2 < n by omega)]; simp
  · rename_i h
    apply Nat.eq_of_testBit_eq
    intro i
    rw [co_bit _ _ _ (nlo_lt n lo hn hlo) hq, nlo_bit _ _ _ hn hlo, co_bit _ _ _ hlo hq, decide_eq_false (show ¬ (2 * i + q) % 2 = n % 2 by omega), decide_eq_false (show ¬ n = 2 * i + q by omega)]
    simp
theorem nhi_co (n lo hi q : Nat) (hn : n < 64) (hlo : lo < 2 ^ 64) (hhi : hi < 2 ^ 64) (hq : q < 2) (hpre : co (n % 2) hi / 2 ^ (n / 2 + 1) = co (n % 2) lo / 2 ^ (n / 2 + 1)) : co q (nhi n hi) = if q = n % 2 then mid n lo - 1 else co q hi := by
  split
  · rename_i h
    subst h
    have hp : 0 < 2 ^ (n / 2) := Nat.pow_pos (by omega)
    have hlt := pow_half (n / 2)
    apply Nat.eq_of_testBit_eq
    intro i
    rw [co_bit _ _ _ (nhi_lt n hi hhi) hq, nhi_bit _ _ _ hn hhi, mid, ← hpre, Nat.add_sub_assoc hp, Nat.testBit_two_pow_mul_add _ (show 2 ^ (n / 2) - 1 < 2 ^ (n / 2 + 1) by omega), Nat.testBit_two_pow_sub_one]
    split
    · rename_i hi'
      by_cases hij : n / 2 = i
      · rw [decide_eq_false (show ¬ i < n / 2 by omega), decide_eq_true (show n = 2 * i + n % 2 by omega), decide_eq_false (show ¬ 2 * i + n % 2 < n by omega)]; simp
      · rw [decide_eq_true (show i < n / 2 by omega), decide_eq_true (show 2 * i + n % 2 < n by omega), decide_eq_true (show (2 * i + n % 2) % 2 = n % 2 by omega), decide_eq_true (show i < 32 by omega)]; simp
    · rename_i hi'
      rw [Nat.testBit_div_two_pow, show i - (n / 2 + 1) + (n / 2 + 1) = i from by omega, co_bit _ _ _ hhi hq, decide_eq_false (show ¬ n = 2 * i + n % 2 by omega), decide_eq_false (show ¬ 2 * i + n % 2 < n by omega)]; simp
  · rename_i h
    apply Nat.eq_of_testBit_eq
    intro i
    rw [co_bit _ _ _ (nhi_lt n hi hhi) hq, nhi_bit _ _ _ hn hhi, co_bit _ _ _ hhi hq, decide_eq_false (show ¬ (2 * i + q) % 2 = n % 2 by omega), decide_eq_false (show ¬ n = 2 * i + q by omega)]
    simp

/-- What holds between the rounds. -/
structure LInv (L H z n lo hi best : Nat) (found : Bool) : Prop where
  hlo : lo < 2 ^ 64
  hhi : hi < 2 ^ 64
  pre : ∀ i, n ≤ i → lo.testBit i = z.testBit i ∧ hi.testBit i = z.testBit i
  ord : ∀ p, p < 2 → co p lo ≤ co p hi
  sl : inB L H lo
  sh : inB L H hi
  cover : ∀ k, k < 2 ^ 64 → inB L H k → z ≤ k → inB lo hi k ∨ (found = true ∧ best ≤ k)
  fnd : found = true → best < 2 ^ 64 ∧ inB L H best ∧ z ≤ best ∧ ∀ k, (∀ i, n ≤ i → k.testBit i = z.testBit i) → k < best
  nof : found = false → best = 0
/-- What is told. -/
def LRes (L H z : Nat) (r : Nat × Bool) : Prop :=
  (r.2 = true → r.1 < 2 ^ 64 ∧ inB L H r.1 ∧ z ≤ r.1 ∧ ∀ k, k < 2 ^ 64 → inB L H k → z ≤ k → r.1 ≤ k) ∧
  (r.2 = false → r.1 = 0 ∧ ∀ k, k < 2 ^ 64 → inB L H k → z ≤ k → False)

theorem co_pre (n lo hi : Nat) (hlo : lo < 2 ^ 64) (hhi : hi < 2 ^ 64) (h : ∀ i, n < i → lo.testBit i = hi.testBit i) : co (n % 2) hi / 2 ^ (n / 2 + 1) = co (n % 2) lo / 2 ^ (n / 2 + 1) := by
  apply Nat.eq_of_testBit_eq
  intro i
  rw [Nat.testBit_div_two_pow, Nat.testBit_div_two_pow, co_bit _ _ _ hhi (by omega), co_bit _ _ _ hlo (by omega), h _ (by omega)]

/-- A box that parts. -/
theorem split_co (n lo hi : Nat) (hn : n < 64) (hlo : lo < 2 ^ 64) (hhi : hi < 2 ^ 64) (hpre : ∀ i, n < i → lo.testBit i = hi.testBit i) (h0 : lo.testBit n = false) (h1 : hi.testBit n = true) :
    co (n % 2) lo ≤ mid n lo - 1 ∧ mid n lo ≤ co (n % 2) hi := by
  have hp : n % 2 < 2 := by omega
  have e := co_pre n lo hi hlo hhi hpre
  have b0 : (co (n % 2) lo).testBit (n / 2) = false := by rw [co_bit _ _ _ hlo hp, show 2 * (n / 2) + n % 2 = n from by omega, h0, Bool.and_false]
  have b1 : (co (n % 2) hi).testBit (n / 2) = true := by rw [co_bit _ _ _ hhi hp, show 2 * (n / 2) + n % 2 = n from by omega, h1, decide_eq_true (show n / 2 < 32 by omega)]; rfl
  unfold mid
  rw [Nat.testBit_eq_decide_div_mod_eq, decide_eq_false_iff_not] at b0
  rw [Nat.testBit_eq_decide_div_mod_eq, decide_eq_true_iff] at b1
  generalize co (n % 2) lo = u at *
  generalize co (n % 2) hi = v at *
  rw [Nat.pow_succ, ← Nat.div_div_eq_div_mul, ← Nat.div_div_eq_div_mul] at e
  rw [Nat.pow_succ, ← Nat.div_div_eq_div_mul]
  have hj : 0 < 2 ^ (n / 2) := Nat.pow_pos (by omega)
  generalize 2 ^ (n / 2) = J at *
  have du := Nat.div_add_mod u J
  have dv := Nat.div_add_mod v J
  have mu := Nat.mod_lt u hj
  have mv := Nat.mod_lt v hj
  generalize u / J = a at *
  generalize v / J = b at *
  obtain ⟨s, rfl⟩ : ∃ s, a = 2 * s := ⟨a / 2, by omega⟩
  obtain rfl : b = 2 * s + 1 := by omega
  rw [show 2 * s / 2 = s from by omega]
  rw [Nat.mul_add, Nat.mul_one] at dv
  rw [show J * (2 * s) = J * 2 * s from (Nat.mul_assoc _ _ _).symm] at du dv
  omega

theorem lgo_ok (L H z : Nat) (hz : z < 2 ^ 64) : ∀ n lo hi best found, n ≤ 64 → LInv L H z n lo hi best found → LRes L H z (lgo z n lo hi best found) := by
  intro n
  induction n with
  | zero =>
    intro lo hi best found _ h
    have e : lo = z := Nat.eq_of_testBit_eq fun i => (h.pre i (Nat.zero_le _)).1
    have hs := h.sl
    rw [e] at hs
    exact ⟨fun _ => ⟨hz, hs, Nat.le_refl _, fun k _ _ hk => hk⟩, fun h => by cases h⟩
  | succ n ih =>
    intro lo hi best found hn h
    have hlh : lo ≤ hi := key_mono _ _ h.hlo h.hhi h.ord
    have hpl : ∀ i, n < i → lo.testBit i = z.testBit i := fun i hi => (h.pre i hi).1
    have hph : ∀ i, n < i → hi.testBit i = z.testBit i := fun i hi => (h.pre i hi).2
    have hpp : ∀ i, n < i → lo.testBit i = hi.testBit i := fun i hi => (hpl i hi).trans (hph i hi).symm
    have same : lo.testBit n = z.testBit n → hi.testBit n = z.testBit n → LInv L H z n lo hi best found := fun e1 e2 =>
      ⟨h.hlo, h.hhi, fun i hi => by
        rcases Nat.lt_or_eq_of_le hi with hi | rfl
        · exact h.pre i hi
        · exact ⟨e1, e2⟩, h.ord, h.sl, h.sh, h.cover, fun hf => ⟨(h.fnd hf).1, (h.fnd hf).2.1, (h.fnd hf).2.2.1, fun k hk => (h.fnd hf).2.2.2 k fun i hi => hk i (by omega)⟩, h.nof⟩
    have split := fun h0 h1 => split_co n lo hi (by omega) h.hlo h.hhi hpp h0 h1
    have cl := fun q hq => nlo_co n lo q (by omega) h.hlo hq
    have ch := fun q hq => nhi_co n lo hi q (by omega) h.hlo h.hhi hq (co_pre n lo hi h.hlo h.hhi hpp)
    have ll := nlo_lt n lo (by omega) h.hlo
    have lh := nhi_lt n hi h.hhi
    have bl1 : ∀ i, n < i → (nlo n lo).testBit i = z.testBit i := fun i hi => by
      rw [nlo_bit _ _ _ (by omega) h.hlo, decide_eq_false (show ¬ i < n by omega), decide_eq_false (show ¬ n = i by omega), hpl i hi]; simp
    have bl2 : (nlo n lo).testBit n = true := by rw [nlo_bit _ _ _ (by omega) h.hlo, decide_eq_true (Eq.refl n), Bool.or_true]
    have bh1 : ∀ i, n < i → (nhi n hi).testBit i = z.testBit i := fun i hi => by
      rw [nhi_bit _ _ _ (by omega) h.hhi, decide_eq_false (show ¬ i < n by omega), decide_eq_false (show ¬ n = i by omega), hph i hi]; simp
    have bh2 : (nhi n hi).testBit n = false := by rw [nhi_bit _ _ _ (by omega) h.hhi, decide_eq_true (Eq.refl n), decide_eq_false (Nat.lt_irrefl _)]; simp
    have inlo : lo.testBit n = false → hi.testBit n = true → inB L H (nlo n lo) := fun h0 h1 p hp => by
      have s := split h0 h1
      have o := h.ord p hp
      have a := h.sl p hp
      have b := h.sh p hp
      rw [cl p hp]
      split
      · rename_i e; subst e; omega
      · exact ⟨a.1, by omega⟩
    have inhi : lo.testBit n = false → hi.testBit n = true → inB L H (nhi n hi) := fun h0 h1 p hp => by
      have s := split h0 h1
      have o := h.ord p hp
      have a := h.sl p hp
      have b := h.sh p hp
      rw [ch p hp]
      split
      · rename_i e; subst e; omega
      · exact ⟨by omega, b.2⟩
    rw [lgo, lstep]
    cases hbz : z.testBit n <;> cases hbl : lo.testBit n <;> cases hbh : hi.testBit n <;> simp only
    · exact ih _ _ _ _ (by omega) (same (by rw [hbl, hbz]) (by rw [hbh, hbz]))
    · have s := split hbl hbh
      have zlt : z < nlo n lo := lt_of_bit n _ _ hbz bl2 fun j hj => (bl1 j hj).symm
      refine ih lo (nhi n hi) (nlo n lo) true (by omega) ⟨h.hlo, lh, fun i hi => ?_, fun p hp => ?_, h.sl, inhi hbl hbh, fun k hk hin hzk => ?_, fun _ => ⟨ll, inlo hbl hbh, Nat.le_of_lt zlt, fun k hk => ?_⟩, fun hf => by cases hf⟩
      · rcases Nat.lt_or_eq_of_le hi with hi | rfl
        · exact ⟨hpl i hi, bh1 i hi⟩
        · exact ⟨by rw [hbl, hbz], by rw [bh2, hbz]⟩
      · have o := h.ord p hp
        rw [ch p hp]
        split
        · rename_i e; subst e; omega
        · exact o
      · rcases h.cover k hk hin hzk with hb | ⟨hf, hb⟩
        · by_cases hm : co (n % 2) k < mid n lo
          · refine Or.inl fun p hp => ⟨(hb p hp).1, ?_⟩
            rw [ch p hp]
            split
            · rename_i e; subst e; omega
            · exact (hb p hp).2
          · refine Or.inr ⟨rfl, key_mono _ _ ll hk fun p hp => ?_⟩
            rw [cl p hp]
            split
            · rename_i e; subst e; omega
            · exact (hb p hp).1
        · exact Or.inr ⟨rfl, by have := (h.fnd hf).2.2.2 (nlo n lo) fun i hi => bl1 i hi; omega⟩
      · exact lt_of_bit n _ _ (by rw [hk n (Nat.le_refl _), hbz]) bl2 fun j hj => by rw [hk j (by omega), bl1 j hj]
    · have := lt_of_bit n hi lo hbh hbl fun j hj => (hpp j hj).symm
      omega
    · have zlt : z < lo := lt_of_bit n _ _ hbz hbl fun j hj => (hpl j hj).symm
      refine ⟨fun _ => ⟨h.hlo, h.sl, Nat.le_of_lt zlt, fun k hk hin hzk => ?_⟩, fun hf => by cases hf⟩
      rcases h.cover k hk hin hzk with hb | ⟨hf, hb⟩
      · exact key_mono _ _ h.hlo hk fun p hp => (hb p hp).1
      · have := (h.fnd hf).2.2.2 lo fun i hi => hpl i hi
        show lo ≤ k
        omega
    · have zgt : hi < z := lt_of_bit n _ _ hbh hbz fun j hj => hph j hj
      have no : ∀ k, k < 2 ^ 64 → inB lo hi k → z ≤ k → False := fun k hk hb hzk => by
        have := key_mono k hi hk h.hhi fun p hp => (hb p hp).2
        omega
      refine ⟨fun hf => ⟨(h.fnd hf).1, (h.fnd hf).2.1, (h.fnd hf).2.2.1, fun k hk hin hzk => ?_⟩, fun hf => ⟨h.nof hf, fun k hk hin hzk => ?_⟩⟩
      · rcases h.cover k hk hin hzk with hb | ⟨hf, hb⟩
        · exact (no k hk hb hzk).elim
        · exact hb
      · rcases h.cover k hk hin hzk with hb | ⟨hf', hb⟩
        · exact no k hk hb hzk
        · simp only at hf; rw [hf] at hf'; cases hf'
    · have s := split hbl hbh
      have zgt : nhi n hi < z := lt_of_bit n _ _ bh2 hbz fun j hj => bh1 j hj
      refine ih (nlo n lo) hi best found (by omega) ⟨ll, h.hhi, fun i hi => ?_, fun p hp => ?_, inlo hbl hbh, h.sh, fun k hk hin hzk => ?_, fun hf => ⟨(h.fnd hf).1, (h.fnd hf).2.1, (h.fnd hf).2.2.1, fun k hk => (h.fnd hf).2.2.2 k fun i hi => hk i (by omega)⟩, h.nof⟩
      · rcases Nat.lt_or_eq_of_le hi with hi | rfl
        · exact ⟨bl1 i hi, hph i hi⟩
        · exact ⟨by rw [bl2, hbz], by rw [hbh, hbz]⟩
      · have o := h.ord p hp
        rw [cl p hp]
        split
        · rename_i e; subst e; omega
        · exact o
      · rcases h.cover k hk hin hzk with hb | hb
        · by_cases hm : co (n % 2) k < mid n lo
          · have : k ≤ nhi n hi := key_mono _ _ hk lh fun p hp => by
              rw [ch p hp]
              split
              · rename_i e; subst e; omega
              · exact (hb p hp).2
            omega
          · refine Or.inl fun p hp => ⟨?_, (hb p hp).2⟩
            rw [cl p hp]
            split
            · rename_i e; subst e; omega
            · exact (hb p hp).1
        · exact Or.inr hb
    · have := lt_of_bit n hi lo hbh hbl fun j hj => (hpp j hj).symm
      omega
    · exact ih _ _ _ _ (by omega) (same (by rw [hbl, hbz]) (by rw [hbh, hbz]))

/-- THE LAW: what Least tells. -/
theorem leastM_ok (a b c d z : Nat) (ha : a < 2 ^ 32) (hb : b < 2 ^ 32) (hc : c < 2 ^ 32) (hd : d < 2 ^ 32) (hz : z < 2 ^ 64) (hab : a ≤ b) (hcd : c ≤ d) : LRes (wv a c) (wv b d) z (leastM a b c d z) := by
  have h1 := wv_lt a c ha
  have h2 := wv_lt b d hb
  obtain ⟨q1, q2⟩ := ga_wv a c ha hc h1
  obtain ⟨q3, q4⟩ := ga_wv b d hb hd h2
  have hord : ∀ p, p < 2 → co p (wv a c) ≤ co p (wv b d) := fun p hp => by
    unfold co
    split
    · rw [q1, q3]; exact hab
    · rw [q2, q4]; exact hcd
  refine lgo_ok _ _ z hz 64 _ _ 0 false (Nat.le_refl _) ⟨h1, h2, fun i hi => ?_, hord, fun p hp => ⟨Nat.le_refl _, hord p hp⟩, fun p hp => ⟨hord p hp, Nat.le_refl _⟩, fun k hk hin _ => Or.inl hin, (fun h => by cases h), fun _ => rfl⟩
  rw [far64 _ _ h1 (by omega), far64 _ _ h2 (by omega), far64 _ _ hz (by omega)]
  exact ⟨rfl, rfl⟩
/-- A key lies in a rectangle. -/
theorem inB_rect (a b c d k : Nat) (ha : a < 2 ^ 32) (hb : b < 2 ^ 32) (hc : c < 2 ^ 32) (hd : d < 2 ^ 32) : inB (wv a c) (wv b d) k ↔ a ≤ ga k ∧ ga k ≤ b ∧ c ≤ ga (k / 2) ∧ ga (k / 2) ≤ d := by
  obtain ⟨q1, q2⟩ := ga_wv a c ha hc (wv_lt a c ha)
  obtain ⟨q3, q4⟩ := ga_wv b d hb hd (wv_lt b d hb)
  rw [inB_iff, q1, q2, q3, q4]
end Go.Proofs.Ytpmmcgafjhigkaa
