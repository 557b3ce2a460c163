/-
  A region that draws its order, all of it quiet but its last operation, which waits for every other one: the last one is walked last, whatever order is drawn.
-/
import Derived.Test.YthcpdjlomdchdaaMem
namespace Go.Proofs.Ythcpdjlomdchdaa
open Go.RowKit
set_option linter.unusedSimpArgs false
set_option linter.unusedVariables false

/-- The operation with nothing in it. -/
def hush (o : Oper) : Oper := { o with op := .move (.const undef) }

/-- Each operation waits for lower ones alone; the last one for all, it writes no slot and bears no guard. -/
def lastB (ops : Array Oper) : Bool :=
  (List.range ops.size).all (fun i => match ops[i]? with
    | some o => o.after.all fun e => !Region.binds .any e || decide (e.on < i)
    | none => true) &&
  match ops[ops.size - 1]? with
  | some o => o.dst.isNone && o.guard.isNone && (List.range (ops.size - 1)).all fun i => o.after.any fun e => Region.binds .any e && e.on == i
  | none => false

section
variable {P : Program} {Q : Exit → Act → World → Prop} {l : List Oper} {o : Oper}

/-- What is asked: ahead of the last operation, the last operation. -/
def Late (P : Program) (ops : Array Oper) (o : Oper) (Q : Exit → Act → World → Prop) : Exit → Act → World → Prop
  | .normal, a, w => wpList P ops Q [o] a w
  | e, a, w => Q e a w

theorem wp_late {ops : Array Oper} {o' : Oper} {a : Act} {w : World} {K : Act → World → Prop} (h : o'.wp P a w K (Late P ops o Q)) : o'.wp P a w K Q := by
  unfold Oper.wp at *
  generalize (execOp a.eval o').run P w = r at *
  cases r with
  | ok n w' =>
    cases n <;> simp only [Oper.upon] at h ⊢ <;>
      first
        | exact h
        | exact Calls.mono h (fun e w'' he => by cases e <;> exact he)
  | halt x w' => cases x <;> simp only [Oper.upon] at h ⊢ <;> exact h

theorem ready_hush (listed : Array Bool) : Region.ready .any (l ++ [hush o]).toArray listed = Region.ready .any (l ++ [o]).toArray listed := by
  unfold Region.ready
  simp only [List.size_toArray, List.length_append, List.length_cons, List.length_nil]
  apply List.filter_congr
  intro i hi
  have : (((l ++ [hush o]).toArray[i]?).map (·.after.all fun e => !Region.binds .any e || listed.getD e.on false)) = (((l ++ [o]).toArray[i]?).map (·.after.all fun e => !Region.binds .any e || listed.getD e.on false)) := by
    simp only [List.getElem?_toArray, List.getElem?_append]
    split
    · rfl
    · cases h : i - l.length with
      | zero => simp [hush]
      | succ k => simp
  rw [this]

theorem yielded_hush (tmps : Array Value) : yielded (l ++ [hush o]).toArray tmps = yielded (l ++ [o]).toArray tmps := by
  funext j
  unfold yielded
  have : ((l ++ [hush o]).toArray[j]?).bind (·.dst) = ((l ++ [o]).toArray[j]?).bind (·.dst) := by
    simp only [List.getElem?_toArray, List.getElem?_append]
    split
    · rfl
    · cases h : j - l.length with
      | zero => simp [hush]
      | succ k => simp
  rw [this]

/-- Some operation may come up as long as one is left. -/
theorem some_ready {ops : Array Oper} {listed : Array Bool} (hB : lastB ops = true) (hs : listed.size = ops.size) : ∀ (j : Nat), j < ops.size → listed.getD j true = false → Region.ready .any ops listed ≠ [] := by
  intro j
  induction j using Nat.strongRecOn with
  | _ j ih =>
    intro hj hl hr
    have hall : ∀ i, i < j → listed.getD i false = true := fun i hi => by
      cases h : listed.getD i false with
      | true => rfl
      | false =>
        have h' : listed.getD i true = false := by
          have : i < listed.size := by omega
          simp [this] at h ⊢; exact h
        exact absurd hr (ih i hi (by omega) h')
    unfold lastB at hB
    simp only [Bool.and_eq_true, List.all_eq_true, List.mem_range] at hB
    have hf := hB.1 j hj
    have ho : ops[j]? = some ops[j] := Array.getElem?_eq_getElem hj
    rw [ho] at hf
    have : j ∈ Region.ready .any ops listed := mem_ready.2 ⟨hl, _, ho, fun e he hb => by
      have h1 := Array.all_eq_true_iff_forall_mem.1 hf e he
      rw [hb] at h1
      exact hall _ (by simpa using h1)⟩
    rw [hr] at this
    cases this

theorem any_of_hush (hB : lastB (l ++ [o]).toArray = true) : ∀ (f : Nat) (listed : Array Bool) (a : Act) (w : World), listed.size = l.length + 1 → listed.getD l.length true = false →
    wpAny P .any (l ++ [hush o]).toArray (Late P (l ++ [o]).toArray o Q) f listed a w → wpAny P .any (l ++ [o]).toArray Q f listed a w
  | 0, listed, a, w, hs, hn, h => by
    have h1 := h.1
    rw [ready_hush] at h1
    exact absurd h1 (some_ready hB (by simpa using hs) l.length (by simp) hn)
  | f + 1, listed, a, w, hs, hn, h => by
    have hne := some_ready hB (by simpa using hs) l.length (by simp) hn
    refine ⟨fun h0 => absurd h0 hne, fun i hi => ?_⟩
    have hstep := h.2 i (by rw [ready_hush]; exact hi)
    obtain ⟨hiun, oi, hoi, hafter⟩ := mem_ready.1 hi
    have hilt : i < l.length + 1 := by simpa using (Array.getElem?_eq_some_iff.1 hoi).1
    have hB' := hB
    unfold lastB at hB'
    simp only [Bool.and_eq_true] at hB'
    have hlast := hB'.2
    have hget : (l ++ [o]).toArray[(l ++ [o]).toArray.size - 1]? = some o := by simp
    rw [hget] at hlast
    simp only [Bool.and_eq_true, List.all_eq_true, List.mem_range] at hlast
    obtain ⟨⟨hd, hg⟩, hw⟩ := hlast
    by_cases hil : i = l.length
    · subst hil
      have ho1 : (l ++ [hush o]).toArray[l.length]? = some (hush o) := by simp
      have ho2 : (l ++ [o]).toArray[l.length]? = some o := by simp
      have hoe : oi = o := Option.some.inj (hoi.symm.trans ho2)
      subst hoe
      have hwant : ∀ y, Region.wanted oi y = true := fun y => by
        have : oi.guard = none := by simpa using hg
        simp [Region.wanted, this]
      have hwant' : ∀ y, Region.wanted (hush oi) y = true := fun y => by
        have : (hush oi).guard = none := by simpa [hush] using hg
        simp [Region.wanted, this]
      have hdst : oi.dst = none := by simpa using hd
      unfold wpOp at hstep
      simp only [ho1, hwant', if_true] at hstep
      have hK : wpAny P .any (l ++ [hush oi]).toArray (Late P (l ++ [oi]).toArray oi Q) f (listed.setIfInBounds l.length true) a w := by
        rcases hstep with h1 | ⟨h1, _⟩
        · have : ((hush oi).wp P a w (wpAny P .any (l ++ [hush oi]).toArray (Late P (l ++ [oi]).toArray oi Q) f (listed.setIfInBounds l.length true)) (Late P (l ++ [oi]).toArray oi Q)) =
              wpAny P .any (l ++ [hush oi]).toArray (Late P (l ++ [oi]).toArray oi Q) f (listed.setIfInBounds l.length true) (a.put (hush oi).dst undef) w := rfl
          rw [this] at h1
          have hp : a.put (hush oi).dst undef = a := by simp [hush, hdst, Act.put]
          rwa [hp] at h1
        · have hev := h1.1
          have : ((execOp a.eval (hush oi)).runT P w #[]).2 = #[] := rfl
          rw [this] at hev
          exact absurd hev (by simp)
      have hlisted : ∀ j, j < l.length + 1 → (listed.setIfInBounds l.length true).getD j true = true := fun j hj => by
        by_cases hjl : j = l.length
        · subst hjl; simp [hs]
        · have h2 := hw j (by simp; omega)
          obtain ⟨e, he, hb⟩ := Array.any_eq_true'.1 h2
          simp only [Bool.and_eq_true, beq_iff_eq] at hb
          have h3 := hafter e he hb.1
          rw [hb.2] at h3
          have hjs : j < listed.size := by omega
          rw [Array.getD_eq_getD_getElem?, Array.getElem?_setIfInBounds, if_neg (fun e => hjl e.symm)]
          simp [hjs] at h3 ⊢
          exact h3
      have hnone : Region.ready .any (l ++ [oi]).toArray (listed.setIfInBounds l.length true) = [] := by
        apply List.eq_nil_iff_forall_not_mem.2
        intro j hj
        obtain ⟨h1, o2, ho3, _⟩ := mem_ready.1 hj
        have hjlt : j < l.length + 1 := by simpa using (Array.getElem?_eq_some_iff.1 ho3).1
        rw [hlisted j hjlt] at h1
        cases h1
      have hQ : wpList P (l ++ [oi]).toArray Q [oi] a w := by
        cases f with
        | zero => exact hK.2
        | succ f => exact hK.1 (by rw [ready_hush]; exact hnone)
      unfold wpList at hQ
      rw [if_pos (hwant _)] at hQ
      unfold wpOp
      simp only [ho2, hwant, if_true]
      refine hQ.imp (Oper.wp_mono fun a' w' hq => ?_) id
      have hq' : Q .normal a' w' := hq
      cases f with
      | zero => exact ⟨hnone, hq'⟩
      | succ f => exact ⟨fun _ => hq', fun j hj => by rw [hnone] at hj; cases hj⟩
    · have hlt : i < l.length := by omega
      have ho1 : (l ++ [hush o]).toArray[i]? = some l[i] := by simp [List.getElem?_append_left hlt, hlt]
      have ho2 : (l ++ [o]).toArray[i]? = some l[i] := by simp [List.getElem?_append_left hlt, hlt]
      have hnext : ∀ a' w', wpAny P .any (l ++ [hush o]).toArray (Late P (l ++ [o]).toArray o Q) f (listed.setIfInBounds i true) a' w' → wpAny P .any (l ++ [o]).toArray Q f (listed.setIfInBounds i true) a' w' := fun a' w' h' =>
        any_of_hush hB f _ a' w' (by simp [hs]) (by
          rw [Array.getD_eq_getD_getElem?, Array.getElem?_setIfInBounds, if_neg hil, ← Array.getD_eq_getD_getElem?]; exact hn) h'
      unfold wpOp at hstep ⊢
      simp only [ho1, ho2, yielded_hush] at hstep ⊢
      split
      · rename_i hw'
        simp only [hw', if_true] at hstep
        rcases hstep with h1 | ⟨h1, h2⟩
        · exact .inl (Oper.wp_mono hnext (wp_late h1))
        · exact .inr ⟨h1, h2⟩
      · rename_i hw'
        simp only [hw'] at hstep
        exact hnext _ _ hstep

/-- THE LAW. -/
theorem wp_quiet_last {w0 w : World} {own : List Nat} {L : List (Nat × Obj)} {id : Nat} {a : Act} {l : List Oper} (n : Nat) {o : Oper} (hf : P.follows .mixedOrders = true) (ho : l.drop n = [o]) (hB : lastB l.toArray = true) (hX : Region.lexB .any (l.take n ++ [hush o]).toArray = true) (hm : Mem w0 own L w)
    (h : wpQuiet P (l.take n ++ [hush o]).toArray (Mem w0 own L) (fun a' => ∀ w', Mem w0 own L w' → wpList P l.toArray Q [o] a' w') (l.take n) a) : (Code.region id l.toArray true).wp P Q a w := by
  have hl : l = l.take n ++ [o] := by rw [← ho, List.take_append_drop]
  generalize l.take n = k at *
  subst hl
  refine wp_region_any hf (any_of_hush hB _ _ _ _ (by simp) (by simp) ?_)
  have hsz : (k ++ [o]).toArray.size = (k ++ [hush o]).toArray.size := by simp
  rw [hsz]
  simp only [Region.lexB, Bool.and_eq_true] at hX
  refine wpAny_of_quiet (C := Mem w0 own L) (Q := fun a' => ∀ w', Mem w0 own L w' → wpList P (k ++ [o]).toArray Q [o] a' w') (fun a' w' hw' h' => h' w' hw') _ _ _ _ (hm.drawn _) ?_
  have hq : wpQuiet P (k ++ [hush o]).toArray (Mem w0 own L) (fun a' => ∀ w', Mem w0 own L w' → wpList P (k ++ [o]).toArray Q [o] a' w') (k ++ [hush o]) a := by
    clear hX hf hsz
    have hg : (hush o).guard = none := by
      unfold lastB at hB
      simp only [Bool.and_eq_true] at hB
      have hlast := hB.2
      have hget : (k ++ [o]).toArray[(k ++ [o]).toArray.size - 1]? = some o := by simp
      rw [hget] at hlast
      simp only [Bool.and_eq_true] at hlast
      simpa [hush] using hlast.1.2
    have hd : (hush o).dst = none := by
      unfold lastB at hB
      simp only [Bool.and_eq_true] at hB
      have hlast := hB.2
      have hget : (k ++ [o]).toArray[(k ++ [o]).toArray.size - 1]? = some o := by simp
      rw [hget] at hlast
      simp only [Bool.and_eq_true] at hlast
      simpa [hush] using hlast.1.1
    generalize (k ++ [hush o]).toArray = ops at *
    generalize (fun a' : Act => ∀ w', Mem w0 own L w' → wpList P (k ++ [o]).toArray Q [o] a' w') = R at *
    clear hB ho
    induction k generalizing a with
    | nil =>
      show wpQuiet P ops (Mem w0 own L) R [hush o] a
      refine wq_run (v := undef) (by simp [Region.wanted, hg]) (fun _ _ => rfl) ?_
      have : a.put (hush o).dst undef = a := by rw [hd]; rfl
      rw [this]
      exact h
    | cons x k ih =>
      show wpQuiet P ops (Mem w0 own L) R (x :: (k ++ [hush o])) a
      unfold wpQuiet at h ⊢
      split
      · rename_i hw
        rw [if_pos hw] at h
        exact Oper.quiet_mono (fun a' h' => ih h') h
      · rename_i hw
        rw [if_neg hw] at h
        exact ih h
  have := wpAnyQ_lex (C := Mem w0 own L) (md := .any) hX.1 (k ++ [hush o]).toArray.toList 0 (Array.replicate (k ++ [hush o]).toArray.size false) a (by simp) (by simpa using hX.2) (by simpa using hq)
  simpa using this
end
end Go.Proofs.Ythcpdjlomdchdaa
