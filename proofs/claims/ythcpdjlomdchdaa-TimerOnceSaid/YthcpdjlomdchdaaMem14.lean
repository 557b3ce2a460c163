/-
  The symbolic heap, continued: maps from int to int; the list's places changed about; a block that is one of two.
-/
import Derived.Test.YthcpdjlomdchdaaMem13
import Derived.Maps.OwnSet
import Derived.ScopeJumps
namespace Go.Proofs.Ythcpdjlomdchdaa
open Go.RowKit
set_option linter.unusedSimpArgs false
set_option linter.unusedVariables false

/-! ### The list's places -/
theorem nodup_at {α β : Type} {g : α → β} {l : List α} (h : (l.map g).Nodup) {i j : Nat} {x y : α} (hi : l[i]? = some x) (hj : l[j]? = some y) (e : g x = g y) : i = j := by
  have key : ∀ (i j : Nat) (x y : α), i < j → l[i]? = some x → l[j]? = some y → g x = g y → False := fun i j x y hij hi hj e => by
    obtain ⟨hil, h1⟩ := List.getElem?_eq_some_iff.1 hi
    obtain ⟨hjl, h2⟩ := List.getElem?_eq_some_iff.1 hj
    have := List.pairwise_iff_getElem.1 h i j (by simpa using hil) (by simpa using hjl) hij
    rw [List.getElem_map, List.getElem_map, h1, h2] at this
    exact this e
  rcases Nat.lt_trichotomy i j with h1 | h1 | h1
  · exact (key i j x y h1 hi hj e).elim
  · exact h1
  · exact (key j i y x h1 hj hi e.symm).elim
theorem Mem.perm {w0 w : World} {own : List Nat} {L M : List (Nat × Obj)} (h : Mem w0 own L w) (p : L.Perm M) : Mem w0 own M w := by
  have hn : (L.map (·.1)).Nodup := by
    refine List.pairwise_iff_getElem.2 fun i j hi hj hij e => ?_
    simp only [List.length_map] at hi hj
    rw [List.getElem_map, List.getElem_map] at e
    have := h.apart i j _ _ (List.getElem?_eq_getElem hi) (List.getElem?_eq_getElem hj) e
    omega
  have hn' : (M.map (·.1)).Nodup := (p.map _).nodup_iff.1 hn
  exact ⟨h.os, h.tape, h.output, h.size, h.old, fun q hq => h.has q (p.mem_iff.2 hq), fun q hq => h.may q (p.mem_iff.2 hq), fun i j q r hi hj e => nodup_at hn' hi hj e⟩

/-! ### Maps from int to int -/
def ent (p : Int × Int × Nat) : MapEntry := ⟨.int .i64 p.1, .int .i64 p.2.1, p.2.2⟩
/-- The entries es read as f. -/
def MapIs (es : Array MapEntry) (clock : Nat) (f : Int → Option Int) : Prop :=
  ∃ l : List (Int × Int × Nat), es.toList = l.map ent ∧ (l.map (·.1)).Nodup ∧ (l.map (·.2.2)).Nodup ∧ (∀ p ∈ l, p.2.2 < clock) ∧ ∀ k v, f k = some v ↔ ∃ s, (k, v, s) ∈ l

theorem MapIs.empty (clock : Nat) : MapIs #[] clock fun _ => none := ⟨[], rfl, by simp, by simp, by simp, by simp⟩

def lookAt (k : Int) : List (Int × Int × Nat) → Nat → Option (Nat × Int)
  | [], _ => none
  | p :: r, i => if p.1 = k then some (i, p.2.1) else lookAt k r (i + 1)
theorem findNow_ent (k : Int) : ∀ (l : List (Int × Int × Nat)) (i : Nat), Instr.findNow (.int .i64) (.int .i64 k) (l.map ent) i = some ((lookAt k l i).map fun x => (x.1, .int .i64 x.2))
  | [], i => rfl
  | p :: r, i => by
    have ih := findNow_ent k r (i + 1)
    simp only [List.map_cons, Instr.findNow, ent, Instr.sameNow, if_true, lookAt]
    by_cases h : p.1 = k
    · simp [h]
    · have h' : (k == p.1) = false := by simp; exact fun e => h e.symm
      rw [h', if_neg h]
      exact ih
theorem lookAt_some (k : Int) : ∀ (l : List (Int × Int × Nat)) (i j : Nat) (v : Int), lookAt k l i = some (j, v) → ∃ n s, j = i + n ∧ l[n]? = some (k, v, s)
  | [], i, j, v, h => by simp [lookAt] at h
  | p :: r, i, j, v, h => by
    unfold lookAt at h
    split at h
    · rename_i hp
      simp only [Option.some.injEq, Prod.mk.injEq] at h
      exact ⟨0, p.2.2, by omega, by simp [← hp, ← h.2]⟩
    · obtain ⟨n, s, e, h'⟩ := lookAt_some k r (i + 1) j v h
      exact ⟨n + 1, s, by omega, by simpa using h'⟩
theorem lookAt_none (k : Int) : ∀ (l : List (Int × Int × Nat)) (i : Nat), lookAt k l i = none → ∀ p ∈ l, p.1 ≠ k
  | [], i, h, p, hp => by cases hp
  | q :: r, i, h, p, hp => by
    unfold lookAt at h
    split at h
    · cases h
    · rename_i hq
      rcases List.mem_cons.1 hp with rfl | hp
      · exact hq
      · exact lookAt_none k r (i + 1) h p hp
theorem mem_set' {α : Type} {l : List α} {i : Nat} {x y p : α} (hi : l[i]? = some y) : p ∈ l.set i x ↔ p = x ∨ ∃ j, j ≠ i ∧ l[j]? = some p := by
  have hl : i < l.length := (List.getElem?_eq_some_iff.1 hi).1
  constructor
  · intro h
    obtain ⟨j, hj⟩ := List.mem_iff_getElem?.1 h
    by_cases hji : j = i
    · subst hji
      rw [List.getElem?_set_self hl] at hj
      exact .inl (Option.some.inj hj).symm
    · rw [List.getElem?_set_ne (fun e => hji e.symm)] at hj
      exact .inr ⟨j, hji, hj⟩
  · rintro (rfl | ⟨j, hji, hj⟩)
    · exact List.mem_iff_getElem?.2 ⟨i, List.getElem?_set_self hl⟩
    · exact List.mem_iff_getElem?.2 ⟨j, by rw [List.getElem?_set_ne (fun e => hji e.symm)]; exact hj⟩
theorem map_set_self {α β : Type} (g : α → β) {l : List α} {i : Nat} {x y : α} (hi : l[i]? = some y) (e : g x = g y) : (l.set i x).map g = l.map g := by
  apply List.ext_getElem?
  intro j
  rw [List.getElem?_map, List.getElem?_map]
  by_cases hji : j = i
  · subst hji
    rw [List.getElem?_set_self (List.getElem?_eq_some_iff.1 hi).1, hi]
    simp [e]
  · rw [List.getElem?_set_ne (fun e => hji e.symm)]

/-- f with v at k. -/
def putM (f : Int → Option Int) (k : Int) (v : Int) (x : Int) : Option Int := if x = k then some v else f x
def delM (f : Int → Option Int) (k : Int) (x : Int) : Option Int := if x = k then none else f x

section
variable {es : Array MapEntry} {clock : Nat} {f : Int → Option Int}
/-- What is found at a key: its place and its stamp, or nothing. -/
theorem MapIs.find (h : MapIs es clock f) (k : Int) : (f k = none ∧ Instr.findNow (.int .i64) (.int .i64 k) es.toList 0 = some none ∧ ∀ x ∈ es.toList, x.key ≠ .int .i64 k) ∨
    ∃ (v : Int) (j s : Nat), f k = some v ∧ Instr.findNow (.int .i64) (.int .i64 k) es.toList 0 = some (some (j, .int .i64 v)) ∧ es[j]? = some ⟨.int .i64 k, .int .i64 v, s⟩ := by
  obtain ⟨l, hl, hk, hs, hc, hf⟩ := h
  have hn := findNow_ent k l 0
  rw [← hl] at hn
  cases hq : lookAt k l 0 with
  | none =>
    have := lookAt_none k l 0 hq
    refine .inl ⟨?_, by rw [hn, hq]; rfl, fun x hx e => ?_⟩
    · cases hfk : f k with
      | none => rfl
      | some v =>
        obtain ⟨s, hm⟩ := (hf k v).1 hfk
        exact (this _ hm rfl).elim
    · rw [hl] at hx
      obtain ⟨p, hp, rfl⟩ := List.mem_map.1 hx
      refine this p hp ?_
      simpa [ent] using e
  | some r =>
    obtain ⟨j, v⟩ := r
    obtain ⟨n, s, rfl, hj⟩ := lookAt_some k l 0 j v hq
    refine .inr ⟨v, 0 + n, s, (hf k v).2 ⟨s, List.mem_of_getElem? hj⟩, by rw [hn, hq]; rfl, ?_⟩
    rw [← Array.getElem?_toList, hl, List.getElem?_map, Nat.zero_add, hj]
    rfl
theorem MapIs.set (h : MapIs es clock f) {k v0 : Int} {j s : Nat} (hj : es[j]? = some ⟨.int .i64 k, .int .i64 v0, s⟩) (v : Int) (g : MapEntry → MapEntry) (hg : g ⟨.int .i64 k, .int .i64 v0, s⟩ = ⟨.int .i64 k, .int .i64 v, s⟩) : MapIs (es.modify j g) clock (putM f k v) := by
  obtain ⟨l, hl, hk, hs, hc, hf⟩ := h
  have hj' : ∃ p, l[j]? = some p ∧ ent p = ⟨.int .i64 k, .int .i64 v0, s⟩ := by
    rw [← Array.getElem?_toList, hl, List.getElem?_map] at hj
    cases hp : l[j]? with
    | none => rw [hp] at hj; cases hj
    | some p => rw [hp] at hj; exact ⟨p, rfl, Option.some.inj hj⟩
  obtain ⟨⟨k', v', s'⟩, hp, he⟩ := hj'
  simp only [ent, MapEntry.mk.injEq, Value.int.injEq, true_and] at he
  obtain ⟨rfl, rfl, rfl⟩ := he
  refine ⟨l.set j (k', v, s'), ?_, ?_, ?_, ?_, ?_⟩
  · rw [Array.toList_modify, hl]
    apply List.ext_getElem?
    intro i
    rw [List.getElem?_modify, List.getElem?_map, List.getElem?_map]
    by_cases hij : j = i
    · subst hij
      rw [List.getElem?_set_self (List.getElem?_eq_some_iff.1 hp).1, hp]
      simp only [if_true, Option.map_some]
      exact congrArg some hg
    · rw [List.getElem?_set_ne hij]
      simp [hij]
  · rw [map_set_self (x := (k', v, s')) (·.1) hp rfl]; exact hk
  · rw [map_set_self (x := (k', v, s')) (·.2.2) hp rfl]; exact hs
  · intro p hm
    rcases (mem_set' hp).1 hm with rfl | ⟨i, _, hi⟩
    · exact hc (k', v', s') (List.mem_of_getElem? hp)
    · exact hc p (List.mem_of_getElem? hi)
  · intro x y
    unfold putM
    constructor
    · intro h
      split at h
      · rename_i hx
        subst hx
        exact ⟨s', (mem_set' hp).2 (.inl (by rw [Option.some.inj h]))⟩
      · rename_i hx
        obtain ⟨s2, hm⟩ := (hf x y).1 h
        obtain ⟨i, hi⟩ := List.mem_iff_getElem?.1 hm
        refine ⟨s2, (mem_set' hp).2 (.inr ⟨i, fun e => ?_, hi⟩)⟩
        subst e
        rw [hp] at hi
        cases hi
        exact hx rfl
    · rintro ⟨s2, hm⟩
      rcases (mem_set' hp).1 hm with e | ⟨i, hij, hi⟩
      · simp only [Prod.mk.injEq] at e
        rw [if_pos e.1, e.2.1]
      · have hx : x ≠ k' := fun e => by
          subst e
          exact hij (nodup_at hk hi hp rfl)
        rw [if_neg hx]
        exact (hf x y).2 ⟨s2, List.mem_of_getElem? hi⟩
theorem MapIs.push (h : MapIs es clock f) {k : Int} (hk : f k = none) (v : Int) : MapIs (es.push ⟨.int .i64 k, .int .i64 v, clock⟩) (clock + 1) (putM f k v) := by
  obtain ⟨l, hl, hk0, hs, hc, hf⟩ := h
  refine ⟨l ++ [(k, v, clock)], ?_, ?_, ?_, ?_, ?_⟩
  · rw [Array.toList_push, hl, List.map_append]; rfl
  · rw [List.map_append, List.nodup_append]
    refine ⟨hk0, by simp, fun a ha b hb e => ?_⟩
    obtain ⟨p, hp, rfl⟩ := List.mem_map.1 ha
    simp only [List.map_cons, List.map_nil, List.mem_singleton] at hb
    rw [hb] at e
    have := (hf p.1 p.2.1).2 ⟨p.2.2, hp⟩
    rw [e, hk] at this
    cases this
  · rw [List.map_append, List.nodup_append]
    refine ⟨hs, by simp, fun a ha b hb e => ?_⟩
    obtain ⟨p, hp, rfl⟩ := List.mem_map.1 ha
    simp only [List.map_cons, List.map_nil, List.mem_singleton] at hb
    have := hc p hp
    omega
  · intro p hp
    rcases List.mem_append.1 hp with hp | hp
    · exact Nat.lt_succ_of_lt (hc p hp)
    · rw [List.mem_singleton.1 hp]; exact Nat.lt_succ_self _
  · intro x y
    unfold putM
    constructor
    · intro h
      split at h
      · rename_i hx
        exact ⟨clock, List.mem_append.2 (.inr (by rw [hx, Option.some.inj h]; exact List.mem_singleton.2 rfl))⟩
      · obtain ⟨s, hm⟩ := (hf x y).1 h
        exact ⟨s, List.mem_append.2 (.inl hm)⟩
    · rintro ⟨s, hm⟩
      rcases List.mem_append.1 hm with hm | hm
      · have hx : x ≠ k := fun e => by
          have := (hf x y).2 ⟨s, hm⟩
          rw [e, hk] at this
          cases this
        rw [if_neg hx]
        exact (hf x y).2 ⟨s, hm⟩
      · have := List.mem_singleton.1 hm
        simp only [Prod.mk.injEq] at this
        rw [if_pos this.1, this.2.1]
theorem MapIs.erase (h : MapIs es clock f) {k v0 : Int} {j s : Nat} (hj : es[j]? = some ⟨.int .i64 k, .int .i64 v0, s⟩) : MapIs (es.eraseIdxIfInBounds j) clock (delM f k) := by
  obtain ⟨l, hl, hk, hs, hc, hf⟩ := h
  have hj' : ∃ p, l[j]? = some p ∧ ent p = ⟨.int .i64 k, .int .i64 v0, s⟩ := by
    rw [← Array.getElem?_toList, hl, List.getElem?_map] at hj
    cases hp : l[j]? with
    | none => rw [hp] at hj; cases hj
    | some p => rw [hp] at hj; exact ⟨p, rfl, Option.some.inj hj⟩
  obtain ⟨⟨k', v', s'⟩, hp, he⟩ := hj'
  simp only [ent, MapEntry.mk.injEq, Value.int.injEq, true_and] at he
  obtain ⟨rfl, rfl, rfl⟩ := he
  have hjs : j < es.size := (Array.getElem?_eq_some_iff.1 hj).1
  refine ⟨l.eraseIdx j, ?_, ?_, ?_, ?_, ?_⟩
  · rw [Array.eraseIdxIfInBounds, dif_pos hjs, Array.toList_eraseIdx, hl]
    apply List.ext_getElem?
    intro i
    simp only [List.getElem?_eraseIdx, List.getElem?_map]
    split <;> rfl
  · exact hk.sublist ((List.eraseIdx_sublist l j).map _)
  · exact hs.sublist ((List.eraseIdx_sublist l j).map _)
  · intro p hm
    exact hc p (List.mem_of_mem_eraseIdx hm)
  · intro x y
    unfold delM
    constructor
    · intro h
      split at h
      · cases h
      · rename_i hx
        obtain ⟨s2, hm⟩ := (hf x y).1 h
        obtain ⟨i, hi⟩ := List.mem_iff_getElem?.1 hm
        refine ⟨s2, List.mem_eraseIdx_iff_getElem?.2 ⟨i, fun e => ?_, hi⟩⟩
        subst e
        rw [hp] at hi
        cases hi
        exact hx rfl
    · rintro ⟨s2, hm⟩
      obtain ⟨i, hij, hi⟩ := List.mem_eraseIdx_iff_getElem?.1 hm
      have hx : x ≠ k' := fun e => by
        subst e
        exact hij (nodup_at hk hi hp rfl)
      rw [if_neg hx]
      exact (hf x y).2 ⟨s2, List.mem_of_getElem? hi⟩
/-- A stamp is one entry's alone. -/
theorem MapIs.stamp (h : MapIs es clock f) {e : MapEntry} {j : Nat} (hj : es[j]? = some e) : es.findIdx? (fun x => ((x.born : Nat) : Int) == ((e.born : Nat) : Int)) = some j := by
  obtain ⟨l, hl, hk, hs, hc, hf⟩ := h
  obtain ⟨hjs, rfl⟩ := Array.getElem?_eq_some_iff.1 hj
  refine Array.findIdx?_eq_some_iff_getElem.2 ⟨hjs, by simp, fun i hij hi => ?_⟩
  have hn : (es.toList.map (·.born)).Nodup := by rw [hl, List.map_map]; exact hs
  have hb : es[i].born = es[j].born := by have := of_decide_eq_true hi; omega
  have := nodup_at hn (i := i) (j := j) (x := es[i]) (y := es[j]) (by rw [Array.getElem?_toList]; exact Array.getElem?_eq_getElem (by omega)) (by rw [Array.getElem?_toList]; exact Array.getElem?_eq_getElem hjs) hb
  omega
end

section
variable {P : Program} {ops : Array Oper} {Q : Exit → Act → World → Prop} {rest : List Oper} {a : Act} {w0 w : World} {own : List Nat} {L : List (Nat × Obj)}
  {dst : Option Tmp} {ty : TypeId} {pos : String} {aft : Array Edge} {gd : Option (Nat × Bool)} {K : Act → World → Prop}
  {es : Array MapEntry} {clock b i : Nat} {f : Int → Option Int} {t kt et : TypeId}

theorem ld_lookup {m x : Operand} {k : Int} (hu : P.underlying t = some (.map kt et)) (hk : P.underlying kt = some (.int .i64)) (hz : (P.info? et).bind (·.zero) = some (.int .i64 0)) (hL : L[i]? = some (b, .map es clock)) (hI : MapIs es clock f)
    (hx : a.eval m = .map (some b)) (hy : a.eval x = .int .i64 k) :
    ∀ w, Mem w0 own L w → (execOp a.eval ⟨dst, .lookup t m x true, ty, pos, aft, gd⟩).run P w = .ok (.value (.tuple #[.int .i64 ((f k).getD 0), .bool (f k).isSome])) w := fun w hm => by
  have hb := hm.heap hL
  have hc : ∀ e, (Instr.checkKey e 10000 kt (.int .i64 k)).run P w = .ok () w := fun e => MapKept.run_checkKey hk (by trivial) e 9999
  unfold execOp
  rcases hI.find k with ⟨h1, h2, _⟩ | ⟨v, j, s, h1, h2, h3⟩
  · simp [hx, hy, Instr.lookup, run_underlying hu, MapKept.run_getObj_map hb, hc, MapKept.run_findKey hk h2, zero_run hz, h1]
  · simp [hx, hy, Instr.lookup, run_underlying hu, MapKept.run_getObj_map hb, hc, MapKept.run_findKey hk h2, h1]

theorem Mem.setMap (hm : Mem w0 own L w) (hL : L[i]? = some (b, .map es clock)) (o : Obj) : Mem w0 own (L.set i (b, o)) { w with heap := w.heap.setIfInBounds b o } := by
  have h := MapKept.heap_set (o' := o) (hm.heap hL)
  exact hm.setObj hL rfl rfl rfl (by simp) (fun k _ hk => h.2 k hk) h.1

theorem ow_mapUpdate {m x y : Operand} {k v : Int} (hu : P.underlying t = some (.map kt et)) (hk : P.underlying kt = some (.int .i64)) (hm : Mem w0 own L w) (hL : L[i]? = some (b, .map es clock)) (hI : MapIs es clock f)
    (hx : a.eval m = .map (some b)) (hy : a.eval x = .int .i64 k) (hv : a.eval y = .int .i64 v)
    (h : ∀ es' clock' w', MapIs es' clock' (putM f k v) → Mem w0 own (L.set i (b, .map es' clock')) w' → K (a.put dst undef) w') :
    Oper.wp P ⟨dst, .mapUpdate t m x y, ty, pos, aft, gd⟩ a w K Q := by
  have hb := hm.heap hL
  have hc : ∀ e, (Instr.checkKey e 10000 kt (.int .i64 k)).run P w = .ok () w := fun e => MapKept.run_checkKey hk (by trivial) e 9999
  unfold Oper.wp execOp
  rcases hI.find k with ⟨h1, h2, _⟩ | ⟨v0, j, s, h1, h2, h3⟩
  · simp [hx, hy, hv, Instr.mapUpdate, run_underlying hu, MapKept.run_getObj_map hb, hc, MapKept.run_findKey hk h2, MapKept.run_setObj_map _ hb, Oper.upon]
    exact h _ _ _ (hI.push h1 v) (hm.setMap hL _)
  · have hs : (Instr.keyThatStays (.int .i64 k) (.int .i64 k)).run P w = .ok (.int .i64 k) w := MapKept.run_keyThatStays (d := .int .i64) (by trivial)
    simp [hx, hy, hv, Instr.mapUpdate, run_underlying hu, MapKept.run_getObj_map hb, hc, MapKept.run_findKey hk h2, h3, hs, MapKept.run_setObj_map _ hb, Oper.upon]
    exact h _ _ _ (hI.set h3 v _ rfl) (hm.setMap hL _)

theorem ow_delete {m x : Operand} {k : Int} (hu : P.underlying t = some (.map kt et)) (hk : P.underlying kt = some (.int .i64)) (hm : Mem w0 own L w) (hL : L[i]? = some (b, .map es clock)) (hI : MapIs es clock f)
    (hx : a.eval m = .map (some b)) (hy : a.eval x = .int .i64 k)
    (h : ∀ es' w', MapIs es' clock (delM f k) → Mem w0 own (L.set i (b, .map es' clock)) w' → K (a.put dst (.tuple #[])) w') :
    Oper.wp P ⟨dst, .call ⟨.builtin .delete, #[m, x], #[t, kt]⟩, ty, pos, aft, gd⟩ a w K Q := by
  have hb := hm.heap hL
  have hc : ∀ e, (Instr.checkKey e 10000 kt (.int .i64 k)).run P w = .ok () w := fun e => MapKept.run_checkKey hk (by trivial) e 9999
  unfold Oper.wp execOp
  simp only [resolve, invoke, builtin, Sem.run_bind, Sem.run_pure, Result.andThen_ok, List.map_toArray, List.map_cons, List.map_nil, hx, hy]
  rcases hI.find k with ⟨h1, h2, _⟩ | ⟨v0, j, s, h1, h2, h3⟩
  · simp [Builtin.delete_, run_underlying hu, MapKept.run_getObj_map hb, hc, MapKept.run_findKey hk h2, MapKept.run_setObj_map _ hb, Oper.upon]
    have e : delM f k = f := by
      funext x
      unfold delM
      split
      · rename_i hx; rw [hx, h1]
      · rfl
    exact h _ _ (by rw [e]; exact hI) (hm.setMap hL _)
  · simp [Builtin.delete_, run_underlying hu, MapKept.run_getObj_map hb, hc, MapKept.run_findKey hk h2, MapKept.run_setObj_map _ hb, Oper.upon]
    exact h _ _ (hI.erase h3) (hm.setMap hL _)

theorem ow_clear {m : Operand} (hu : P.underlying t = some (.map kt et)) (hm : Mem w0 own L w) (hL : L[i]? = some (b, .map es clock)) (hx : a.eval m = .map (some b))
    (h : ∀ w', Mem w0 own (L.set i (b, .map #[] clock)) w' → K (a.put dst (.tuple #[])) w') :
    Oper.wp P ⟨dst, .call ⟨.builtin .clear, #[m], #[t]⟩, ty, pos, aft, gd⟩ a w K Q := by
  have hb := hm.heap hL
  unfold Oper.wp execOp
  simp only [resolve, invoke, builtin, Sem.run_bind, Sem.run_pure, Result.andThen_ok, List.map_toArray, List.map_cons, List.map_nil, hx]
  simp [Builtin.clear_, run_underlying hu, MapKept.run_getObj_map hb, MapKept.run_setObj_map _ hb, Oper.upon]
  exact h _ (hm.setMap hL _)

theorem ow_makeMap (hm : Mem w0 own L w) (h : ∀ b w', Mem w0 own ((b, .map #[] 0) :: L) w' → K (a.put dst (.map (some b))) w') : Oper.wp P ⟨dst, .makeMap t none, ty, pos, aft, gd⟩ a w K Q := by
  unfold Oper.wp execOp
  exact h _ _ (hm.alloc _)
end
end Go.Proofs.Ythcpdjlomdchdaa
