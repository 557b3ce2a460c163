/-
  Timers: each is told once, at its time, rising: plain.
-/
import Derived.Test.YthcpdjlomdchdaaTimS
namespace Go.Proofs.Ythcpdjlomdchdaa
open Go.RowKit
set_option linter.unusedSimpArgs false
set_option linter.unusedVariables false

theorem same_of_id {l : Tl} (hn : (l.map (·.1)).Nodup) {x y : Int × Int} (hx : x ∈ l) (hy : y ∈ l) (e : x.1 = y.1) : x = y := by
  obtain ⟨i, hi⟩ := List.mem_iff_getElem?.1 hx
  obtain ⟨j, hj⟩ := List.mem_iff_getElem?.1 hy
  obtain rfl := nodup_at hn hi hj e
  rw [hi] at hj
  exact Option.some.inj hj
/-- What is told up to a time. -/
theorem Ticks.told {to : Int} {l : Tl} {o : List Int} {l' : Tl} (h : Ticks to l o l') (hn : (l.map (·.1)).Nodup) : ∃ p : Tl, o = p.map (·.1) ∧ (∀ x ∈ p, x ∈ l ∧ x.2 ≤ to) ∧ p.Pairwise (fun a b => ahB b a = false ∧ a.1 ≠ b.1) ∧
    (∀ x ∈ l, x.2 ≤ to → x ∈ p) ∧ ∀ x ∈ l', to < x.2 := by
  induction h with
  | stop l h => exact ⟨[], rfl, by simp, by simp, fun x hx hxt => by have := h x hx; omega, h⟩
  | step l x o l' hF hx k ih =>
    obtain ⟨p, rfl, h1, h2, h3, h4⟩ := ih (out_nodup hn)
    refine ⟨x :: p, rfl, fun y hy => ?_, ?_, fun y hy hyt => ?_, h4⟩
    · rcases List.mem_cons.1 hy with rfl | hy
      · exact ⟨hF.1, hx⟩
      · obtain ⟨a, b⟩ := h1 y hy
        exact ⟨(mem_out.1 a).1, b⟩
    · refine List.pairwise_cons.2 ⟨fun y hy => ?_, h2⟩
      obtain ⟨a, b⟩ := mem_out.1 (h1 y hy).1
      exact ⟨hF.2 y a, fun e => b e.symm⟩
    · by_cases e : y.1 = x.1
      · rw [same_of_id hn hy hF.1 e]; exact List.mem_cons_self ..
      · exact List.mem_cons_of_mem _ (h3 y (mem_out.2 ⟨hy, e⟩) hyt)
/-- Is the timer i there? -/
def thereB (z : Nat → Int) (n : Nat) (i : Int) : Bool := (List.range n).any fun j => ((j : Int) == i) && decide (0 ≤ z j)
theorem thereB_iff (z : Nat → Int) (n : Nat) (i : Int) : thereB z n i = true ↔ ∃ y ∈ setsL z n, y.1 = i := by
  unfold thereB
  rw [List.any_eq_true]
  constructor
  · rintro ⟨j, hj, h⟩
    rw [Bool.and_eq_true, beq_iff_eq, decide_eq_true_eq] at h
    exact ⟨((j : Int), z j), mem_setsL.2 ⟨j, List.mem_range.1 hj, rfl, by omega⟩, h.1⟩
  · rintro ⟨y, hy, e⟩
    obtain ⟨j, hj, rfl, hz⟩ := mem_setsL.1 hy
    refine ⟨j, List.mem_range.2 hj, ?_⟩
    rw [Bool.and_eq_true, beq_iff_eq, decide_eq_true_eq]
    exact ⟨e, by omega⟩
theorem thereB_out (z : Nat → Int) (n : Nat) (i : Int) (h : i < 0 ∨ (n : Int) ≤ i) : thereB z n i = false := by
  unfold thereB
  rw [List.any_eq_false]
  intro j hj
  have := List.mem_range.1 hj
  have : ((j : Int) == i) = false := by rw [beq_eq_false_iff_ne]; omega
  simp [this]
theorem thereB_in (z : Nat → Int) (n j : Nat) (h : j < n) : thereB z n (j : Int) = decide (0 ≤ z j) := by
  cases hq : decide (0 ≤ z j) with
  | true =>
    rw [thereB_iff]
    exact ⟨((j : Int), z j), mem_setsL.2 ⟨j, h, rfl, by have := of_decide_eq_true hq; omega⟩, rfl⟩
  | false =>
    cases ht : thereB z n (j : Int) with
    | false => rfl
    | true =>
      obtain ⟨y, hy, e⟩ := (thereB_iff z n _).1 ht
      obtain ⟨k, hk, rfl, hz⟩ := mem_setsL.1 hy
      have : k = j := by have : (k : Int) = (j : Int) := e; omega
      subst this
      have := of_decide_eq_false hq
      omega
/-- The whole story of TimerOnce. -/
structure Told (z : Nat → Int) (n : Nat) (i to : Int) (m : Nat) (jn : Nat → Nat) : Prop where
  lt : ∀ k, k < m → jn k < n
  low : ∀ k, k < m → 0 ≤ z (jn k)
  high : ∀ k, k < m → z (jn k) ≤ to
  ne : ∀ k, k < m → ((jn k : Nat) : Int) ≠ i
  once : ∀ k k', k' < k → k < m → jn k' ≠ jn k
  rise : ∀ k, k + 1 < m → z (jn k) < z (jn (k + 1)) ∨ (z (jn k) = z (jn (k + 1)) ∧ jn k < jn (k + 1))
  all : ∀ j, j < n → (j : Int) ≠ i → 0 ≤ z j → z j ≤ to → ∃ k, k < m ∧ jn k = j
theorem story (tb : Nat) (z : Nat → Int) (n : Nat) (i to : Int) : ∃ (l1 : Tl) (o : List Int) (l2 : Tl) (jn : Nat → Nat),
    (((setsL z n).map (·.1)).Nodup → TmCall 10 #[.pointer (some ⟨tb, 0, none⟩), .int .i64 i] tb 0 (setsL z n) (.bool (thereB z n i)) 0 l1) ∧
    TmCall 10 #[.pointer (some ⟨tb, 0, none⟩), .int .i64 i] tb 0 l1 (.bool false) 0 l1 ∧ Ticks to l1 o l2 ∧ l1.length ≤ (setsL z n).length ∧
    (((setsL z n).map (·.1)).Nodup → Ticks to l2 [] l2 ∧ Told z n i to o.length jn ∧ ∀ k, k < o.length → o.getD k 0 = ((jn k : Nat) : Int)) := by
  have hmem : ∀ y, y ∈ out i (setsL z n) ↔ ∃ j : Nat, j < n ∧ y = ((j : Int), z j) ∧ ¬ z j < 0 ∧ (j : Int) ≠ i := fun y => by
    rw [mem_out, mem_setsL]
    constructor
    · rintro ⟨⟨j, hj, rfl, h⟩, hi⟩
      exact ⟨j, hj, rfl, h, hi⟩
    · rintro ⟨j, hj, rfl, h, hi⟩
      exact ⟨⟨j, hj, rfl, h⟩, hi⟩
  obtain ⟨o, l2, hK⟩ := ticks_ex to _ (out i (setsL z n)) (Nat.le_refl _)
  have hj : ∃ jn : Nat → Nat, ∀ k, k < o.length → ((setsL z n).map (·.1)).Nodup → o.getD k 0 = ((jn k : Nat) : Int) := by
    refine ⟨fun k => (o.getD k 0).toNat, fun k hk hn => ?_⟩
    obtain ⟨p, rfl, h1, _⟩ := hK.told (out_nodup hn)
    have hkp : k < p.length := by simpa using hk
    obtain ⟨j, hj, e, _⟩ := (hmem _).1 (h1 p[k] (List.getElem_mem hkp)).1
    have : (p.map (·.1)).getD k 0 = (j : Int) := by
      rw [List.getD_eq_getElem?_getD, List.getElem?_map, List.getElem?_eq_getElem hkp]
      simp [e]
    show (List.map (fun x : Int × Int => x.1) p).getD k 0 = (((List.map (fun x : Int × Int => x.1) p).getD k 0).toNat : Int)
    rw [this]
    omega
  obtain ⟨jn, hjn⟩ := hj
  refine ⟨out i (setsL z n), o, l2, jn, fun hn => ?_, tm_cancel_no tb 0 i _ (fun y hy => (mem_out.1 hy).2), hK, (out_sub i (setsL z n)).length_le, fun hn => ?_⟩
  · cases ht : thereB z n i with
    | true => exact tm_cancel tb 0 i _ ((thereB_iff z n i).1 ht)
    | false =>
      have h1 : ∀ y ∈ setsL z n, y.1 ≠ i := fun y hy e => by
        rw [(thereB_iff z n i).2 ⟨y, hy, e⟩] at ht
        cases ht
      have := tm_cancel_no tb 0 i _ h1
      rw [out_none h1]
      exact this
  · obtain ⟨p, hop, h1, h2, h3, h4⟩ := hK.told (out_nodup hn)
    have hol : o.length = p.length := by rw [hop, List.length_map]
    have hp : ∀ k (hk : k < p.length), p[k] = (((jn k : Nat) : Int), z (jn k)) ∧ jn k < n ∧ 0 ≤ z (jn k) ∧ ((jn k : Nat) : Int) ≠ i ∧ z (jn k) ≤ to := fun k hk => by
      obtain ⟨hm, hto⟩ := h1 p[k] (List.getElem_mem hk)
      obtain ⟨j, hj, e, hz, hi⟩ := (hmem _).1 hm
      have e2 := hjn k (by omega) hn
      rw [hop, List.getD_eq_getElem?_getD, List.getElem?_map, List.getElem?_eq_getElem hk] at e2
      simp only [Option.map_some, Option.getD_some, e] at e2
      obtain rfl : j = jn k := by omega
      rw [e] at hto
      exact ⟨e, hj, by omega, hi, hto⟩
    refine ⟨.stop l2 h4, ⟨fun k hk => (hp k (by omega)).2.1, fun k hk => (hp k (by omega)).2.2.1, fun k hk => (hp k (by omega)).2.2.2.2, fun k hk => (hp k (by omega)).2.2.2.1, fun k k' hkk hk e => ?_, fun k hk => ?_, fun j hj hi hz hzt => ?_⟩, fun k hk => hjn k hk hn⟩
    · have := (List.pairwise_iff_getElem.1 h2 k' k (by omega) (by omega) hkk).2
      rw [(hp k (by omega)).1, (hp k' (by omega)).1] at this
      exact this (by rw [e])
    · have := List.pairwise_iff_getElem.1 h2 k (k + 1) (by omega) (by omega) (by omega)
      rw [(hp k (by omega)).1, (hp (k + 1) (by omega)).1, ahB_false] at this
      obtain ⟨a, b⟩ := this
      simp only at a b
      omega
    · have := h3 ((j : Int), z j) ((hmem _).2 ⟨j, hj, rfl, by omega, hi⟩) hzt
      obtain ⟨k, hk, e⟩ := List.getElem_of_mem this
      rw [(hp k hk).1] at e
      simp only [Prod.mk.injEq] at e
      exact ⟨k, by omega, by omega⟩
end Go.Proofs.Ythcpdjlomdchdaa
