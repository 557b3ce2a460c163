/-
  The symbolic heap, continued: a region that draws its order and holds stores: conditions on the world that hold till a certain operation comes up; an entry of a map, in two steps; a struct of two cells stored; a scope with two labels.
-/
import Derived.Test.YthcpdjlomdchdaaMem14
namespace Go.Proofs.Ythcpdjlomdchdaa
open Go.RowKit
set_option linter.unusedSimpArgs false
set_option linter.unusedVariables false

/-! ### Conditions that hold till an operation comes up -/
/-- Each condition of C holds as long as its operation has not come up. -/
def Hold (C : List (Nat × (World → Prop))) (listed : Array Bool) (w : World) : Prop := ∀ c ∈ C, listed.getD c.1 false = false → c.2 w
def wpAnyG (P : Program) (md : Region.Mode) (ops : Array Oper) (Q : Exit → Act → World → Prop) (C : List (Nat × (World → Prop))) : Nat → Array Bool → Act → World → Prop
  | 0, listed, a, w => Region.ready md ops listed = [] ∧ Q .normal a w
  | fuel + 1, listed, a, w =>
    (Region.ready md ops listed = [] → Q .normal a w) ∧
    ∀ i ∈ Region.ready md ops listed, wpOp P ops Q i (fun a' w' => Hold C (listed.setIfInBounds i true) w' ∧ wpAnyG P md ops Q C fuel (listed.setIfInBounds i true) a' w') a w
section
variable {P : Program} {ops : Array Oper} {Q : Exit → Act → World → Prop} {md : Region.Mode} {C : List (Nat × (World → Prop))}
theorem wpAny_of_G : ∀ (fuel : Nat) (listed : Array Bool) (a : Act) (w : World), wpAnyG P md ops Q C fuel listed a w → wpAny P md ops Q fuel listed a w
  | 0, _, _, _, h => h
  | fuel + 1, _, _, _, h => ⟨h.1, fun i hi => wpOp_mono (fun a' w' h' => wpAny_of_G fuel _ a' w' h'.2) (h.2 i hi)⟩
/-- Operation m waits for operation i (or is none of the region's). -/
def waitsFor (md : Region.Mode) (ops : Array Oper) (m i : Nat) : Bool :=
  match ops[m]? with
  | none => true
  | some o => o.after.any fun e => Region.binds md e && e.on == i

theorem wpAnyG_first {i m : Nat} {S : World → Prop} {oi : Oper} {v : Value} (hi : ops[i]? = some oi) (hsel : ∀ (j : Nat) (o : Oper) cs b, ops[j]? = some o → o.op ≠ .select cs b)
    (hQ : ∀ c a w, Q (.panic c) (a.put oi.dst v) w → Q (.panic c) a w) (hc : (m, S) ∈ C) (hmi : m ≠ i) (hCi : ∀ c ∈ C, c.1 ≠ i) (hwt : waitsFor md ops m i = true) :
    ∀ (fuel : Nat) (listed : Array Bool) (a : Act) (w : World),
      (∀ j oj, ops[j]? = some oj → j ≠ i → listed.getD j true = false → (∀ e ∈ oj.after, Region.binds md e = true → e.on ≠ i) → oi.apart ops oj = true) →
      i ∈ Region.ready md ops listed → YieldsIf P ops S oi v a → listed.getD m false = false → Hold C listed w →
      wpAnyG P md ops Q C fuel (listed.setIfInBounds i true) (a.put oi.dst v) w → wpAnyG P md ops Q C (fuel + 1) listed a w := by
  have hold_set : ∀ {listed : Array Bool} {w : World}, Hold C listed w → Hold C (listed.setIfInBounds i true) w := fun {listed w} h c hc hl => by
    rw [getD_set_ne false (hCi c hc).symm] at hl
    exact h c hc hl
  intro fuel
  induction fuel with
  | zero =>
    intro listed a w _ hr hy hm hS H
    refine ⟨fun h => (by rw [h] at hr; cases hr), fun j hj => ?_⟩
    by_cases hji : j = i
    · subst hji; exact hy.wpOp hi (hS _ hc hm) ⟨hold_set hS, H⟩
    · have := ready_mono hj hji
      rw [H.1] at this
      cases this
  | succ fuel ih =>
    intro listed a w hfree hr hy hm hS H
    refine ⟨fun h => (by rw [h] at hr; cases hr), fun j hj => ?_⟩
    by_cases hji : j = i
    · subst hji; exact hy.wpOp hi (hS _ hc hm) ⟨hold_set hS, H⟩
    · have h1 := H.2 j (ready_mono hj hji)
      obtain ⟨hjun, oj, hoj, hall⟩ := mem_ready.1 hj
      have hnot : ∀ e ∈ oj.after, Region.binds md e = true → e.on ≠ i := fun e he hb heq => by
        have h1 := hall e he hb
        have h0 := (mem_ready.1 hr).1
        rw [heq] at h1
        rcases Nat.lt_or_ge i listed.size with h' | h'
        · simp [h'] at h0 h1; rw [h0] at h1; cases h1
        · simp [Array.getElem?_eq_none h'] at h1
      have hjm : j ≠ m := fun e => by
        subst e
        unfold waitsFor at hwt
        rw [hoj] at hwt
        obtain ⟨e, he, hb⟩ := Array.any_eq_true'.1 hwt
        simp only [Bool.and_eq_true, beq_iff_eq] at hb
        exact hnot e he hb.1 hb.2
      have h2 := wpOp_putIf hoj (hfree j oj hoj hji hjun hnot) (fun cs b => hsel i oi cs b hi) (fun cs b => hsel j oj cs b hoj) hQ hy h1
      have hfree' : ∀ k ok, ops[k]? = some ok → k ≠ i → (listed.setIfInBounds j true).getD k true = false →
          (∀ e ∈ ok.after, Region.binds md e = true → e.on ≠ i) → oi.apart ops ok = true := fun k ok hk hki hun hno => by
        refine hfree k ok hk hki ?_ hno
        by_cases hjk : j = k
        · subst hjk; exact hjun
        · rw [getD_set_ne true hjk] at hun; exact hun
      refine wpOp_mono (fun a' w' h3 => ?_) h2
      have hH : Hold C (listed.setIfInBounds j true) w' := fun c hc hl => by
        refine h3.2.1 c hc ?_
        rw [Array.setIfInBounds_comm _ _ (Ne.symm hji), getD_set_ne false (hCi c hc).symm]
        exact hl
      refine ⟨hH, ih (listed.setIfInBounds j true) a' w' hfree' (ready_mono hr (Ne.symm hji)) h3.1 (by rw [getD_set_ne false hjm]; exact hm) hH ?_⟩
      rw [Array.setIfInBounds_comm _ _ hji]
      exact h3.2.2

/-- Each condition of C whose operation is not among those that are done. -/
def Held (C : List (Nat × (World → Prop))) (done : List Nat) (w : World) : Prop := ∀ c ∈ C, done.contains c.1 = false → c.2 w
theorem Held.nil (done : List Nat) (w : World) : Held [] done w := fun c hc => by cases hc
theorem Held.cons {m : Nat} {S : World → Prop} {done : List Nat} {w : World} (h : S w) (k : Held C done w) : Held ((m, S) :: C) done w := fun c hc hd => by
  rcases List.mem_cons.1 hc with rfl | hc
  · exact h
  · exact k c hc hd
theorem Held.skip {m : Nat} {S : World → Prop} {done : List Nat} {w : World} (h : done.contains m = true) (k : Held C done w) : Held ((m, S) :: C) done w := fun c hc hd => by
  rcases List.mem_cons.1 hc with rfl | hc
  · rw [h] at hd; cases hd
  · exact k c hc hd
theorem Held.hold {done : List Nat} {listed : Array Bool} {w : World} (h : Held C done w) (hd : done.all (fun m => listed.getD m false) = true) : Hold C listed w := fun c hc hl => by
  refine h c hc ?_
  cases hq : done.contains c.1
  · rfl
  · have := (List.all_eq_true.1 hd) c.1 (by simpa using hq)
    rw [hl] at this
    cases this

variable {fuel : Nat} {listed : Array Bool} {a : Act} {w : World} {done : List Nat}
/-- The beginning. -/
theorem wp_region_G {id : Nat} (hm : P.follows .mixedOrders = true) (h : wpAnyG P .any ops Q C ops.size (Array.replicate ops.size false) a w.drew) : (Code.region id ops true).wp P Q a w :=
  wp_region_any hm (wpAny_of_G _ _ _ _ h)
/-- Operation i is taken first: condition number j of C, which holds till an operation that waits for i, says what it yields. -/
theorem wgS {i m : Nat} (j : Nat) {S : World → Prop} {oi : Oper} {v : Value} (hi : ops[i]? = some oi := by rfl) (hj : C[j]? = some (m, S) := by rfl) (hs : Region.noSelect ops = true := by kernel_rfl)
    (hf : Region.free md ops listed i = true := by kernel_rfl) (hr : (Region.ready md ops listed).contains i = true := by kernel_rfl) (hmi : m ≠ i := by decide) (hCi : (C.map (·.1)).all (· != i) = true := by rfl)
    (hwt : waitsFor md ops m i = true := by kernel_rfl) (hml : listed.getD m false = false := by kernel_rfl) (hd : done.all (fun m => listed.getD m false) = true := by kernel_rfl)
    (hQ : ∀ c (a : Act) w, Q (.panic c) (a.put oi.dst v) w → Q (.panic c) a w := by exact fun _ _ _ h => h) (hw : Region.wanted oi (yielded ops a.tmps) = true := by rfl) (hS : Held C done w)
    (h1 : ∀ w, S w → (execOp a.eval oi).run P w = .ok (.value v) w := by intro w hC; go_simp; try with_reducible rfl) (h : wpAnyG P md ops Q C fuel (listed.setIfInBounds i true) (a.put oi.dst v) w) : wpAnyG P md ops Q C (fuel + 1) listed a w :=
  wpAnyG_first hi (Region.noSelect_spec hs) hQ (List.mem_of_getElem? hj) hmi (fun c hc => by have := List.all_eq_true.1 hCi c.1 (List.mem_map_of_mem hc); simpa using this) hwt fuel listed a w (Region.free_spec hi hf) (by simpa using hr) (Or.inl ⟨hw, h1⟩) hml (hS.hold hd) h
/-- The only one that may come up. -/
theorem wgO {i : Nat} {oi : Oper} (hr : Region.ready md ops listed = [i] := by kernel_rfl) (hi : ops[i]? = some oi := by rfl) (hw : Region.wanted oi (yielded ops a.tmps) = true := by rfl) (done : List Nat) (hd : done.all (fun m => (listed.setIfInBounds i true).getD m false) = true := by kernel_rfl)
    (h : ∀ K' : Act → World → Prop, Hid (∀ a w, Held C done w → wpAnyG P md ops Q C fuel (listed.setIfInBounds i true) a w → K' a w) → Oper.wp P oi a w K' Q) : wpAnyG P md ops Q C (fuel + 1) listed a w := by
  refine ⟨fun h0 => absurd (hr ▸ h0) (by simp), fun j hj => ?_⟩
  have : j = i := by rw [hr] at hj; simpa using hj
  subst this
  unfold wpOp
  simp only [hi, hw, if_true]
  exact .inl (h _ fun _ _ h1 h2 => ⟨h1.hold hd, h2⟩)
theorem wgE (hr : Region.ready md ops listed = [] := by kernel_rfl) (h : Q .normal a w) : wpAnyG P md ops Q C fuel listed a w := by
  cases fuel with
  | zero => exact ⟨hr, h⟩
  | succ n => exact ⟨fun _ => h, by rw [hr]; simp⟩
end

/-! ### A map's entry, in two steps; a struct of two cells -/
section
variable {P : Program} {ops : Array Oper} {Q : Exit → Act → World → Prop} {rest : List Oper} {a : Act} {w0 w : World} {own : List Nat} {L : List (Nat × Obj)}
  {dst : Option Tmp} {ty : TypeId} {pos : String} {aft : Array Edge} {gd : Option (Nat × Bool)} {K : Act → World → Prop}
  {es : Array MapEntry} {clock b i : Nat} {f : Int → Option Int} {t kt et : TypeId}
theorem set_same {w : World} {b : Nat} {o : Obj} (h : w.heap[b]? = some o) : { w with heap := w.heap.setIfInBounds b o } = w := by
  obtain ⟨hb, he⟩ := Array.getElem?_eq_some_iff.1 h
  have : w.heap.setIfInBounds b o = w.heap := by
    apply Array.ext_getElem?
    intro j
    rw [Array.getElem?_setIfInBounds]
    split
    · rename_i hj
      subst hj
      rw [h]
    · rfl
  rw [this]
theorem modify_same {es : Array MapEntry} {j : Nat} {e : MapEntry} (hj : es[j]? = some e) (g : MapEntry → MapEntry) (hg : g e = e) : es.modify j g = es := by
  apply Array.ext_getElem?
  intro i
  rw [Array.getElem?_modify]
  split
  · rename_i hi
    subst hi
    rw [hj]
    simp [hg]
  · rfl
/-- The entry that is there: its element and its stamp. -/
theorem ld_entry {m x : Operand} {k v : Int} {j s : Nat} (hu : P.underlying t = some (.map kt et)) (hk : P.underlying kt = some (.int .i64)) (hI : MapIs es clock f) (hj : es[j]? = some ⟨.int .i64 k, .int .i64 v, s⟩)
    (hx : a.eval m = .map (some b)) (hy : a.eval x = .int .i64 k) {w : World} (hb : w.heap[b]? = some (.map es clock)) :
    (execOp a.eval ⟨dst, .mapEntry t m x, ty, pos, aft, gd⟩).run P w = .ok (.value (.tuple #[.int .i64 v, .int .i64 (s : Int)])) w := by
  have hc : ∀ e, (Instr.checkKey e 10000 kt (.int .i64 k)).run P w = .ok () w := fun e => MapKept.run_checkKey hk (by trivial) e 9999
  unfold execOp
  rcases hI.find k with ⟨h1, h2, h3⟩ | ⟨v0, j0, s0, h1, h2, h3⟩
  · exact (h3 _ (List.mem_of_getElem? (by rw [Array.getElem?_toList]; exact hj)) rfl).elim
  · have hjj : j0 = j := by
      obtain ⟨l, hl, hkn, _, _, _⟩ := hI
      have hn : (es.toList.map (·.key)).Nodup := by
        rw [hl, List.map_map]
        have : (l.map fun p => (Value.int .i64 p.1)) = (l.map (·.1)).map (Value.int .i64) := by rw [List.map_map]; rfl
        show (l.map fun p => (Value.int .i64 p.1)).Nodup
        rw [this]
        refine List.pairwise_map.2 (hkn.imp fun h e => h (by simpa using e))
      exact nodup_at hn (x := ⟨.int .i64 k, .int .i64 v0, s0⟩) (y := ⟨.int .i64 k, .int .i64 v, s⟩) (by rw [Array.getElem?_toList]; exact h3) (by rw [Array.getElem?_toList]; exact hj) rfl
    subst hjj
    rw [h3] at hj
    simp only [Option.some.injEq, MapEntry.mk.injEq, Value.int.injEq, true_and] at hj
    obtain ⟨rfl, rfl⟩ := hj
    have hs : (Instr.keyThatStays (.int .i64 k) (.int .i64 k)).run P w = .ok (.int .i64 k) w := MapKept.run_keyThatStays (d := .int .i64) (by trivial)
    have hm := modify_same h3 (fun e => { e with key := .int .i64 k }) rfl
    simp [hx, hy, Instr.mapEntry, run_underlying hu, MapKept.run_getObj_map hb, hc, MapKept.run_findKey hk h2, h3, hs, hm, MapKept.run_setObj_map _ hb, set_same hb, goInt]
theorem ow_entryStore {m x y : Operand} {k v0 v : Int} {j s : Nat} (hm : Mem w0 own L w) (hL : L[i]? = some (b, .map es clock)) (hI : MapIs es clock f) (hj : es[j]? = some ⟨.int .i64 k, .int .i64 v0, s⟩)
    (hx : a.eval m = .map (some b)) (hy : a.eval x = .int .i64 (s : Int)) (hv : a.eval y = .int .i64 v)
    (h : ∀ w', Mem w0 own (L.set i (b, .map (es.modify j fun e => { e with val := .int .i64 v }) clock)) w' → K (a.put dst undef) w') :
    Oper.wp P ⟨dst, .entryStore t m x y, ty, pos, aft, gd⟩ a w K Q := by
  have hb := hm.heap hL
  have hst := hI.stamp hj
  unfold Oper.wp execOp
  simp [hx, hy, hv, Instr.entryStore, MapKept.run_getObj_map hb, asInt, asIntOf, hst, MapKept.run_setObj_map _ hb, Oper.upon]
  exact h _ (hm.setMap hL _)

/-- A struct of two cells goes into a block of ours. -/
theorem ow_store2 {T U : TypeId} {x y : Operand} {v0 v1 : Value} {off : Nat} {cs : Array Value} (hm : Mem w0 own L w) (hL : L[i]? = some (b, .cells cs U (0, 0))) (hx : a.eval x = .pointer (some ⟨b, off, none⟩)) (hy : a.eval y = .agg #[v0, v1])
    (h0 : v0.oneCell' = true) (h1 : v1.oneCell' = true) (hi : (P.info? T).map (·.size) = some 2) (ho : off + 1 < cs.size)
    (h : ∀ w', Mem w0 own (L.set i (b, .cells ((cs.setIfInBounds off v0).setIfInBounds (off + 1) v1) U (0, 0))) w' → K (a.put dst undef) w') : Oper.wp P ⟨dst, .store T x y, ty, pos, aft, gd⟩ a w K Q := by
  refine wp_store_mid T x y rfl b off #[v0, v1] hx hy (fun j hj => ?_) hi (by simp [h0, h1]) (h _ ?_)
  · have hj' : j < 2 := hj
    rw [hm.cell hL, hm.free hL, Array.getElem?_eq_getElem (by omega)]
    exact ⟨rfl, rfl⟩
  · have e := (hm.setCell hL off v0)
    have hil : i < L.length := (List.getElem?_eq_some_iff.1 hL).1
    have e2 := e.setCell (i := i) (List.getElem?_set_self hil) (off + 1) v1
    rw [List.set_set] at e2
    exact e2
end

/-! ### A scope with two labels -/
def Exit.jump2 (l0 l1 : Nat) (J0 J1 : Act → World → Prop) (Q : Exit → Act → World → Prop) : Exit → Act → World → Prop
  | .goto l, a, w => (l = l0 ∧ J0 a w) ∨ (l = l1 ∧ J1 a w)
  | e, a, w => Q e a w
section
variable {P : Program} {a : Act} {w : World} {Q : Exit → Act → World → Prop}
theorem wp_scope_jumps2 {c r0 r1 : Code} (l0 l1 : Nat) (J0 J1 : Act → World → Prop) (μ0 μ1 : Act → World → Nat) (hf0 : findLabel c l0 = some r0) (hf1 : findLabel c l1 = some r1)
    (first : c.wp P (Exit.jump2 l0 l1 J0 J1 Q) a w)
    (pass0 : ∀ a w, J0 a w → r0.wp P (Exit.jump2 l0 l1 (fun a' w' => J0 a' w' ∧ μ0 a' w' < μ0 a w) (fun a' w' => J1 a' w' ∧ μ1 a' w' < μ0 a w) Q) a w)
    (pass1 : ∀ a w, J1 a w → r1.wp P (Exit.jump2 l0 l1 (fun a' w' => J0 a' w' ∧ μ0 a' w' < μ1 a w) (fun a' w' => J1 a' w' ∧ μ1 a' w' < μ1 a w) Q) a w) : (Code.scope c).wp P Q a w := by
  intro b k cs
  have hg0 : gotoIn l0 (.inScope c :: k) = some (.code r0 :: .inScope c :: k) := by simp [gotoIn, hf0]
  have hg1 : gotoIn l1 (.inScope c :: k) = some (.code r1 :: .inScope c :: k) := by simp [gotoIn, hf1]
  have key : ∀ n a w, ((μ0 a w = n ∧ J0 a w) → ∃ e a' w', Q e a' w' ∧ Arrives P (lone (b.at a (.code r0 :: .inScope c :: k)) cs w) b k cs e a' w') ∧
      ((μ1 a w = n ∧ J1 a w) → ∃ e a' w', Q e a' w' ∧ Arrives P (lone (b.at a (.code r1 :: .inScope c :: k)) cs w) b k cs e a' w') := by
    intro n
    induction n using Nat.strongRecOn with
    | _ n ih =>
      intro a w
      refine ⟨fun ⟨hn, hJ⟩ => ?_, fun ⟨hn, hJ⟩ => ?_⟩
      · obtain ⟨e, a₁, w₁, hq, harr⟩ := pass0 a w hJ b (.inScope c :: k) cs
        cases e with
        | normal => exact ⟨.normal, a₁, w₁, hq, Steps.trans harr (.one step_inScope)⟩
        | exit id => exact ⟨.exit id, a₁, w₁, hq, fun k' hk => harr k' (by simp [exitTo, hk])⟩
        | goto l' =>
          rcases hq with ⟨rfl, hJ', hlt⟩ | ⟨rfl, hJ', hlt⟩
          · obtain ⟨e₂, a₂, w₂, hq₂, harr₂⟩ := (ih _ (by omega) a₁ w₁).1 ⟨rfl, hJ'⟩
            exact ⟨e₂, a₂, w₂, hq₂, .of_steps (harr _ hg0) harr₂⟩
          · obtain ⟨e₂, a₂, w₂, hq₂, harr₂⟩ := (ih _ (by omega) a₁ w₁).2 ⟨rfl, hJ'⟩
            exact ⟨e₂, a₂, w₂, hq₂, .of_steps (harr _ hg1) harr₂⟩
        | ret => exact ⟨_, a₁, w₁, hq, harr⟩
        | panic ch => exact ⟨_, a₁, w₁, hq, harr⟩
        | outgrown => exact ⟨_, a₁, w₁, hq, harr⟩
      · obtain ⟨e, a₁, w₁, hq, harr⟩ := pass1 a w hJ b (.inScope c :: k) cs
        cases e with
        | normal => exact ⟨.normal, a₁, w₁, hq, Steps.trans harr (.one step_inScope)⟩
        | exit id => exact ⟨.exit id, a₁, w₁, hq, fun k' hk => harr k' (by simp [exitTo, hk])⟩
        | goto l' =>
          rcases hq with ⟨rfl, hJ', hlt⟩ | ⟨rfl, hJ', hlt⟩
          · obtain ⟨e₂, a₂, w₂, hq₂, harr₂⟩ := (ih _ (by omega) a₁ w₁).1 ⟨rfl, hJ'⟩
            exact ⟨e₂, a₂, w₂, hq₂, .of_steps (harr _ hg0) harr₂⟩
          · obtain ⟨e₂, a₂, w₂, hq₂, harr₂⟩ := (ih _ (by omega) a₁ w₁).2 ⟨rfl, hJ'⟩
            exact ⟨e₂, a₂, w₂, hq₂, .of_steps (harr _ hg1) harr₂⟩
        | ret => exact ⟨_, a₁, w₁, hq, harr⟩
        | panic ch => exact ⟨_, a₁, w₁, hq, harr⟩
        | outgrown => exact ⟨_, a₁, w₁, hq, harr⟩
  obtain ⟨e, a₁, w₁, hq, harr⟩ := first b (.inScope c :: k) cs
  cases e with
  | normal => exact ⟨.normal, a₁, w₁, hq, .head step_scope (Steps.trans harr (.one step_inScope))⟩
  | exit id => exact ⟨.exit id, a₁, w₁, hq, fun k' hk => .head step_scope (harr k' (by simp [exitTo, hk]))⟩
  | goto l' =>
    rcases hq with ⟨rfl, hJ'⟩ | ⟨rfl, hJ'⟩
    · obtain ⟨e₂, a₂, w₂, hq₂, harr₂⟩ := (key _ a₁ w₁).1 ⟨rfl, hJ'⟩
      exact ⟨e₂, a₂, w₂, hq₂, .of_steps (.head step_scope (harr _ hg0)) harr₂⟩
    · obtain ⟨e₂, a₂, w₂, hq₂, harr₂⟩ := (key _ a₁ w₁).2 ⟨rfl, hJ'⟩
      exact ⟨e₂, a₂, w₂, hq₂, .of_steps (.head step_scope (harr _ hg1)) harr₂⟩
  | ret => exact ⟨_, a₁, w₁, hq, .of_steps (.one step_scope) harr⟩
  | panic ch => exact ⟨_, a₁, w₁, hq, .of_steps (.one step_scope) harr⟩
  | outgrown => exact ⟨_, a₁, w₁, hq, .of_steps (.one step_scope) harr⟩
/-- A body that begins with the first label. -/
theorem wp_scope_labels {r0 r1 : Code} (l0 l1 : Nat) (J0 J1 : Act → World → Prop) (μ0 μ1 : Act → World → Nat) (hf0 : findLabel ((Code.label l0).seq r0) l0 = some (Code.skip.seq r0)) (hf1 : findLabel ((Code.label l0).seq r0) l1 = some (Code.skip.seq r1))
    (first : J0 a w)
    (pass1 : ∀ N a w, J1 a w → μ1 a w ≤ N → r1.wp P (Exit.jump2 l0 l1 (fun a' w' => J0 a' w' ∧ μ0 a' w' < N) (fun a' w' => J1 a' w' ∧ μ1 a' w' < N) Q) a w)
    (pass0 : (∀ N a w, J1 a w → μ1 a w ≤ N → r1.wp P (Exit.jump2 l0 l1 (fun a' w' => J0 a' w' ∧ μ0 a' w' < N) (fun a' w' => J1 a' w' ∧ μ1 a' w' < N) Q) a w) →
      ∀ N a w, J0 a w → μ0 a w = N → r0.wp P (Exit.jump2 l0 l1 (fun a' w' => J0 a' w' ∧ μ0 a' w' < N) (fun a' w' => J1 a' w' ∧ μ1 a' w' < N) Q) a w) : (Code.scope ((Code.label l0).seq r0)).wp P Q a w := by
  refine wp_scope_jumps2 l0 l1 J0 J1 μ0 μ1 hf0 hf1 (wp_seq (wp_label ?_)) (fun a w h => wp_seq (wp_skip (pass0 pass1 _ a w h rfl))) (fun a w h => wp_seq (wp_skip (pass1 _ a w h (Nat.le_refl _))))
  refine wp_mono (pass0 pass1 _ a w first rfl) fun e a' w' h => ?_
  cases e <;> first | exact h | exact h.imp (fun x => ⟨x.1, x.2.1⟩) (fun x => ⟨x.1, x.2.1⟩)
end
end Go.Proofs.Ythcpdjlomdchdaa
