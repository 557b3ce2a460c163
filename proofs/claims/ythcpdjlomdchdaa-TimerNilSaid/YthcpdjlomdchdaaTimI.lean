/-
  Timers: are two rows of ints the same? The document's row.
-/
import Derived.Test.YthcpdjlomdchdaaTimG
namespace Go.Proofs.Ythcpdjlomdchdaa
open Go.RowKit
set_option linter.unusedSimpArgs false
set_option linter.unusedVariables false
set_option maxHeartbeats 1000000
set_option maxRecDepth 20000

def intOf : Value → Int | .int _ q => q | _ => 0
theorem cell_old {w0 w : World} {L : List (Nat × Obj)} (hm : Mem w0 [] L w) {ad : Addr} {v : Value} (h : w0.cell? ad = some v) : w.cell? ad = some v := by
  have hb : ad.block < w0.heap.size := by
    rcases Nat.lt_or_ge ad.block w0.heap.size with h' | h'
    · exact h'
    · simp [World.cell?, Array.getElem?_eq_none h'] at h
  have he := hm.old ad.block hb (by simp)
  simp only [World.cell?] at h ⊢
  rw [he]; exact h
section
variable {P : Program} {ops : Array Oper} {Q : Exit → Act → World → Prop} {rest : List Oper} {a : Act} {w : World} {dst : Option Tmp} {ty : TypeId} {pos : String} {aft : Array Edge} {gd : Option (Nat × Bool)}
theorem wl_loadOld {T : TypeId} {x : Operand} {ad : Addr} {v : Value} {d : TypeDesc} (hw : Region.wanted ⟨dst, .load T x, ty, pos, aft, gd⟩ (yielded ops a.tmps) = true) (hx : a.eval x = .pointer (some ad)) (hcell : w.cell? ad = some v)
    (hu : P.underlying T = some d) (hd : (match d with | .struct _ | .array _ _ => true | _ => false) = false) (h : wpList P ops Q rest (a.put dst v) w) : wpList P ops Q (⟨dst, .load T x, ty, pos, aft, gd⟩ :: rest) a w := by
  have hagg : (isAgg T).run P w = .ok false w := by
    unfold isAgg
    rw [Sem.run_bind, run_underlying hu w]
    cases d <;> simp_all
  have hr : (execOp a.eval ⟨dst, .load T x, ty, pos, aft, gd⟩).run P w = .ok (.value v) w := by
    unfold execOp
    simp [hx, Instr.loadAt, Instr.sureAddr, Sem.run_bind, loadVar, hagg, hcell]
  exact wl_op hw fun K hK => ow_value hr (hK _ _ h)
end
/-- The n ints of a slice are those of z, in the world w. -/
def IntsV (w : World) (c : Option Addr) (n : Nat) (z : Nat → Int) : Prop := ∀ i, i < n → ∃ a : Addr, c = some a ∧ w.cell? (a.add i) = some (.int .i64 (z i))
theorem IntsV.old {w0 w : World} {L : List (Nat × Obj)} {c : Option Addr} {n : Nat} {z : Nat → Int} (h : IntsV w0 c n z) (hm : Mem w0 [] L w) : IntsV w c n z := fun i hi => by
  obtain ⟨a, rfl, hc⟩ := h i hi
  exact ⟨a, rfl, cell_old hm hc⟩
theorem ld_old {P : Program} {a : Act} {w : World} {dst : Option Tmp} {ty : TypeId} {pos : String} {aft : Array Edge} {gd : Option (Nat × Bool)} {T : TypeId} {x : Operand} {ad : Addr} {v : Value} {d : TypeDesc} (hx : a.eval x = .pointer (some ad)) (hcell : w.cell? ad = some v)
    (hu : P.underlying T = some d) (hd : (match d with | .struct _ | .array _ _ => true | _ => false) = false) : (execOp a.eval ⟨dst, .load T x, ty, pos, aft, gd⟩).run P w = .ok (.value v) w := by
  have hagg : (isAgg T).run P w = .ok false w := by
    unfold isAgg
    rw [Sem.run_bind, run_underlying hu w]
    cases d <;> simp_all
  unfold execOp
  simp [hx, Instr.loadAt, Instr.sureAddr, Sem.run_bind, loadVar, hagg, hcell]
def sameInts (n : Nat) (z : Nat → Int) (m : Nat) (y : Nat → Int) : Bool := n == m && (List.range n).all fun i => z i == y i
theorem sameInts_no {n m : Nat} {z y : Nat → Int} (h : n ≠ m) : sameInts n z m y = false := by
  unfold sameInts
  rw [beq_eq_false_iff_ne.2 h, Bool.false_and]
theorem sameInts_at {n : Nat} {z y : Nat → Int} {i : Nat} (hi : i < n) (h : z i ≠ y i) : sameInts n z n y = false := by
  unfold sameInts
  rw [Bool.and_eq_false_iff]
  right
  rw [List.all_eq_false]
  exact ⟨i, List.mem_range.2 hi, by simpa using h⟩
theorem sameInts_all {n : Nat} {z y : Nat → Int} (h : ∀ i, i < n → z i = y i) : sameInts n z n y = true := by
  unfold sameInts
  rw [beq_self_eq_true, Bool.true_and, List.all_eq_true]
  intro i hi
  rw [h i (List.mem_range.1 hi)]
  simp
attribute [local irreducible] wpQuiet wpList wpAnyH wpAnyG Calls
theorem ints_c (c : Option Addr) (n cap : Nat) (z : Nat → Int) (c' : Option Addr) (m cap' : Nat) (y : Nat → Int) (hn : n < 2 ^ 62) (w : World) (h : IntsV w c n z) (h' : IntsV w c' m y) :
    Calls Try.prog 14 #[.slice c n cap, .slice c' m cap'] w fun e w' => e = .returned (.bool (sameInts n z m y)) ∧ Ext w w' := by
  by_cases hnm : n = m
  · subst hnm
    obtain ⟨res, hres⟩ : ∃ res, sameInts n z n y = res := ⟨_, rfl⟩
    rw [hres]
    have HRes := hid hres
    have HN := hid hn
    have H := hid h
    have H' := hid h'
    clear hres hn h h'
    go_enter Try.func14, Try.ntmps14
    have hm := Mem.refl w []
    go_wp2_with ((first | refine wpList_skip (by rfl) ?_ | (refine wlL (hm := hm) (hu := by first | exact undOne) (hi := by (try simp only [rowOf_size]); first | exact sizeOne) (h := ?_); (try simp only [Act.put, k1, k2, k3]); (try simp only [List.nil_append])) | refine wlLC (hm := hm) (hu := by first | exact undInt | exact undSl | exact undMp) (h := ?_) | (refine wlS (hm := hm) (hv := (by first | rfl | exact idV_eq _ | exact labV_eq _ _ | exact rectV_eq _ _ _ _)) (hi := by (try simp only [rowOf_size]); first | exact sizeOne) (hs := by first | (simp only [rowOf_size]; done) | rfl) (h := ?_); clear hm; intro w1 hm; (try simp only [rowOf_set, k1, k2, k3, Value.cells, Act.eval, k7, k8, k9, kA, Option.getD_some] at hm)) | (refine wlSC (hm := hm) (hi := by first | exact sizeInt | exact sizeSl | exact sizeMp) (ho := by first | decide | (simp only [rowOf_size]; omega) | (simp; done)) (h := ?_); clear hm; intro w1 hm; (try simp only [rowOf_set, k1, k2, k3, Value.cells, Act.eval, k7, k8, k9, kA, Option.getD_some] at hm)) | (refine wlA (hz := by first | exact zeroOne) (hm := hm) (h := ?_); clear hm; intro b1 w1 hm; (try simp only [rowOf_set, k1, k2, k3, Value.cells, Act.eval, k7, k8, k9, kA, Option.getD_some] at hm)) | (refine wl_box (by rfl) rfl (by first | exact idV_cells _ | exact labV_cells _ _ | exact rectV_cells _ _ _ _ | rfl) hm ?_; clear hm; intro b1 w1 hm) | (with_reducible first | refine stBs ?_ | refine stMs ?_ | refine stAp ?_ | refine stCo ?_)); (try simp only [k4, k5, k6, Act.put, k1, k2, k3]))
    go_loopw [5] (fun vi wr => ∃ i : Nat, i ≤ n ∧ vi = .int .i64 (i : Int) ∧ (∀ j, j < i → z j = y j) ∧ Mem w [] [] wr)
      (fun vi _ => (n - intOf vi).toNat)
    case atStart => exact ⟨0, by omega, rfl, fun j hj => by omega, hm⟩
    case round =>
      clear hm
      obtain ⟨i, hi, rfl, hlow, hm⟩ := hrel
      by_cases hin : i < n
      · obtain ⟨a, rfl, hcell⟩ := H.out i hin
        obtain ⟨a', rfl, hcell'⟩ := H'.out i hin
        have e1 : (i : Int) < (n : Int) := by omega
        have e2 : (0 : Int) ≤ (i : Int) := by omega
        have g1 : IntKind.i64.wrap ((i : Int) + 1) = (i : Int) + 1 := wrap_i64 (by have := HN.out; omega) (by have := HN.out; omega)
        obtain ⟨u, hu⟩ : ∃ u, z i = u := ⟨_, rfl⟩
        obtain ⟨v, hv⟩ : ∃ v, y i = v := ⟨_, rfl⟩
        rw [hu] at hcell
        rw [hv] at hcell'
        have C1 := hid hcell
        have C2 := hid hcell'
        have HU := hid hu
        have HV := hid hv
        have HL := hid hlow
        clear hcell hcell' hu hv hlow hi
        go_wp2_with ((first | refine wpList_skip (by rfl) ?_ | (refine wlL (hm := hm) (hu := by first | exact undOne) (hi := by (try simp only [rowOf_size]); first | exact sizeOne) (h := ?_); (try simp only [Act.put, k1, k2, k3]); (try simp only [List.nil_append])) | refine wlLC (hm := hm) (hu := by first | exact undInt | exact undSl | exact undMp) (h := ?_) | (refine wlS (hm := hm) (hv := (by first | rfl | exact idV_eq _ | exact labV_eq _ _ | exact rectV_eq _ _ _ _)) (hi := by (try simp only [rowOf_size]); first | exact sizeOne) (hs := by first | (simp only [rowOf_size]; done) | rfl) (h := ?_); clear hm; intro w1 hm; (try simp only [rowOf_set, k1, k2, k3, Value.cells, Act.eval, k7, k8, k9, kA, Option.getD_some] at hm)) | (refine wlSC (hm := hm) (hi := by first | exact sizeInt | exact sizeSl | exact sizeMp) (ho := by first | decide | (simp only [rowOf_size]; omega) | (simp; done)) (h := ?_); clear hm; intro w1 hm; (try simp only [rowOf_set, k1, k2, k3, Value.cells, Act.eval, k7, k8, k9, kA, Option.getD_some] at hm)) | (refine wlA (hz := by first | exact zeroOne) (hm := hm) (h := ?_); clear hm; intro b1 w1 hm; (try simp only [rowOf_set, k1, k2, k3, Value.cells, Act.eval, k7, k8, k9, kA, Option.getD_some] at hm)) | (refine wl_box (by rfl) rfl (by first | exact idV_cells _ | exact labV_cells _ _ | exact rectV_cells _ _ _ _ | rfl) hm ?_; clear hm; intro b1 w1 hm) | (with_reducible first | refine stBs ?_ | refine stMs ?_ | refine stAp ?_ | refine stCo ?_)); (try simp only [k4, k5, k6, Act.put, k1, k2, k3]))
        go_wp2_with (with_reducible first | refine stAl ?_ | refine stBo ?_ | refine stLo ?_ | refine stSo ?_ | refine stBu ?_ | refine stBs ?_ | refine stMs ?_ | refine stAp ?_ | refine stCo ?_); refine wp_quiet_mem (by kernel_rfl) (by kernel_rfl) hm ?_
        refine wqS (h := ?_)
        simp only [Act.put, k1, k2, k3]
        refine wqS (h := ?_)
        simp only [Act.put, k1, k2, k3]
        refine wqS (h := ?_)
        simp only [Act.put, k1, k2, k3]
        refine wq_run (v := .int .i64 u) (by rfl) (fun w' hC => ld_old rfl (by first | exact cell_old hC C1.out | simpa using cell_old hC C1.out) undInt rfl) ?_; simp only [Act.put, k1, k2, k3]
        refine wqS (h := ?_)
        simp only [Act.put, k1, k2, k3]
        refine wqS (h := ?_)
        simp only [Act.put, k1, k2, k3]
        refine wqS (h := ?_)
        simp only [Act.put, k1, k2, k3]
        refine wq_run (v := .int .i64 v) (by rfl) (fun w' hC => ld_old rfl (by first | exact cell_old hC C2.out | simpa using cell_old hC C2.out) undInt rfl) ?_; simp only [Act.put, k1, k2, k3]
        repeat ((first | refine wq_skip (by rfl) ?_ | (refine wqL (hu := by first | exact undOne) (hi := by (try simp only [rowOf_size]); first | exact sizeOne) (h := ?_); (try simp only [Act.put, k1, k2, k3]); (try simp only [List.nil_append])) | refine wqLC (hu := by first | exact undInt | exact undSl | exact undMp) (h := ?_) | refine wqS (h := ?_)); (try simp only [k4, k5, k6, Act.put, k1, k2, k3]))
        refine wpQuiet_nil ?_; clear hm; intro w5 hm
        by_cases huv : u = v
        · subst huv
          have d1 : (u != u) = false := by simp
          have d2 : (u == u) = true := by simp
          go_wp2_with ((first | refine wpList_skip (by rfl) ?_ | (refine wlL (hm := hm) (hu := by first | exact undOne) (hi := by (try simp only [rowOf_size]); first | exact sizeOne) (h := ?_); (try simp only [Act.put, k1, k2, k3]); (try simp only [List.nil_append])) | refine wlLC (hm := hm) (hu := by first | exact undInt | exact undSl | exact undMp) (h := ?_) | (refine wlS (hm := hm) (hv := (by first | rfl | exact idV_eq _ | exact labV_eq _ _ | exact rectV_eq _ _ _ _)) (hi := by (try simp only [rowOf_size]); first | exact sizeOne) (hs := by first | (simp only [rowOf_size]; done) | rfl) (h := ?_); clear hm; intro w1 hm; (try simp only [rowOf_set, k1, k2, k3, Value.cells, Act.eval, k7, k8, k9, kA, Option.getD_some] at hm)) | (refine wlSC (hm := hm) (hi := by first | exact sizeInt | exact sizeSl | exact sizeMp) (ho := by first | decide | (simp only [rowOf_size]; omega) | (simp; done)) (h := ?_); clear hm; intro w1 hm; (try simp only [rowOf_set, k1, k2, k3, Value.cells, Act.eval, k7, k8, k9, kA, Option.getD_some] at hm)) | (refine wlA (hz := by first | exact zeroOne) (hm := hm) (h := ?_); clear hm; intro b1 w1 hm; (try simp only [rowOf_set, k1, k2, k3, Value.cells, Act.eval, k7, k8, k9, kA, Option.getD_some] at hm)) | (refine wl_box (by rfl) rfl (by first | exact idV_cells _ | exact labV_cells _ _ | exact rectV_cells _ _ _ _ | rfl) hm ?_; clear hm; intro b1 w1 hm) | (with_reducible first | refine stBs ?_ | refine stMs ?_ | refine stAp ?_ | refine stCo ?_)); (try simp only [k4, k5, k6, Act.put, k1, k2, k3]))
          go_roundw
          case rel => exact ⟨i + 1, by omega, by go_num, fun j hj => by
            by_cases hji : j = i
            · rw [hji, HU.out, HV.out]
            · exact HL.out j (by omega), hm⟩
          case measure => (simp [intOf]; try omega)
        · have d1 : (u != v) = true := by simp [bne, huv]
          have d2 : (u == v) = false := by simp [huv]
          go_wp2_with ((first | refine wpList_skip (by rfl) ?_ | (refine wlL (hm := hm) (hu := by first | exact undOne) (hi := by (try simp only [rowOf_size]); first | exact sizeOne) (h := ?_); (try simp only [Act.put, k1, k2, k3]); (try simp only [List.nil_append])) | refine wlLC (hm := hm) (hu := by first | exact undInt | exact undSl | exact undMp) (h := ?_) | (refine wlS (hm := hm) (hv := (by first | rfl | exact idV_eq _ | exact labV_eq _ _ | exact rectV_eq _ _ _ _)) (hi := by (try simp only [rowOf_size]); first | exact sizeOne) (hs := by first | (simp only [rowOf_size]; done) | rfl) (h := ?_); clear hm; intro w1 hm; (try simp only [rowOf_set, k1, k2, k3, Value.cells, Act.eval, k7, k8, k9, kA, Option.getD_some] at hm)) | (refine wlSC (hm := hm) (hi := by first | exact sizeInt | exact sizeSl | exact sizeMp) (ho := by first | decide | (simp only [rowOf_size]; omega) | (simp; done)) (h := ?_); clear hm; intro w1 hm; (try simp only [rowOf_set, k1, k2, k3, Value.cells, Act.eval, k7, k8, k9, kA, Option.getD_some] at hm)) | (refine wlA (hz := by first | exact zeroOne) (hm := hm) (h := ?_); clear hm; intro b1 w1 hm; (try simp only [rowOf_set, k1, k2, k3, Value.cells, Act.eval, k7, k8, k9, kA, Option.getD_some] at hm)) | (refine wl_box (by rfl) rfl (by first | exact idV_cells _ | exact labV_cells _ _ | exact rectV_cells _ _ _ _ | rfl) hm ?_; clear hm; intro b1 w1 hm) | (with_reducible first | refine stBs ?_ | refine stMs ?_ | refine stAp ?_ | refine stCo ?_)); (try simp only [k4, k5, k6, Act.put, k1, k2, k3]))
          go_ret
          exact ⟨by rw [← HRes.out, sameInts_at hin (by rw [HU.out, HV.out]; exact huv)] <;> rfl, hm.ext⟩
      · obtain rfl : i = n := by omega
        have HL := hid hlow
        clear hi hin hlow
        go_wp2_with ((first | refine wpList_skip (by rfl) ?_ | (refine wlL (hm := hm) (hu := by first | exact undOne) (hi := by (try simp only [rowOf_size]); first | exact sizeOne) (h := ?_); (try simp only [Act.put, k1, k2, k3]); (try simp only [List.nil_append])) | refine wlLC (hm := hm) (hu := by first | exact undInt | exact undSl | exact undMp) (h := ?_) | (refine wlS (hm := hm) (hv := (by first | rfl | exact idV_eq _ | exact labV_eq _ _ | exact rectV_eq _ _ _ _)) (hi := by (try simp only [rowOf_size]); first | exact sizeOne) (hs := by first | (simp only [rowOf_size]; done) | rfl) (h := ?_); clear hm; intro w1 hm; (try simp only [rowOf_set, k1, k2, k3, Value.cells, Act.eval, k7, k8, k9, kA, Option.getD_some] at hm)) | (refine wlSC (hm := hm) (hi := by first | exact sizeInt | exact sizeSl | exact sizeMp) (ho := by first | decide | (simp only [rowOf_size]; omega) | (simp; done)) (h := ?_); clear hm; intro w1 hm; (try simp only [rowOf_set, k1, k2, k3, Value.cells, Act.eval, k7, k8, k9, kA, Option.getD_some] at hm)) | (refine wlA (hz := by first | exact zeroOne) (hm := hm) (h := ?_); clear hm; intro b1 w1 hm; (try simp only [rowOf_set, k1, k2, k3, Value.cells, Act.eval, k7, k8, k9, kA, Option.getD_some] at hm)) | (refine wl_box (by rfl) rfl (by first | exact idV_cells _ | exact labV_cells _ _ | exact rectV_cells _ _ _ _ | rfl) hm ?_; clear hm; intro b1 w1 hm) | (with_reducible first | refine stBs ?_ | refine stMs ?_ | refine stAp ?_ | refine stCo ?_)); (try simp only [k4, k5, k6, Act.put, k1, k2, k3]))
        go_ret
        exact ⟨by rw [← HRes.out, sameInts_all HL.out] <;> rfl, hm.ext⟩
  · rw [sameInts_no hnm]
    have d0 : ((n : Int) != (m : Int)) = true := by rw [bne_iff_ne]; omega
    have d1 : ¬ (n : Int) = (m : Int) := by omega
    clear h h'
    go_enter Try.func14, Try.ntmps14
    have hm := Mem.refl w []
    go_wp2_with ((first | refine wpList_skip (by rfl) ?_ | (refine wlL (hm := hm) (hu := by first | exact undOne) (hi := by (try simp only [rowOf_size]); first | exact sizeOne) (h := ?_); (try simp only [Act.put, k1, k2, k3]); (try simp only [List.nil_append])) | refine wlLC (hm := hm) (hu := by first | exact undInt | exact undSl | exact undMp) (h := ?_) | (refine wlS (hm := hm) (hv := (by first | rfl | exact idV_eq _ | exact labV_eq _ _ | exact rectV_eq _ _ _ _)) (hi := by (try simp only [rowOf_size]); first | exact sizeOne) (hs := by first | (simp only [rowOf_size]; done) | rfl) (h := ?_); clear hm; intro w1 hm; (try simp only [rowOf_set, k1, k2, k3, Value.cells, Act.eval, k7, k8, k9, kA, Option.getD_some] at hm)) | (refine wlSC (hm := hm) (hi := by first | exact sizeInt | exact sizeSl | exact sizeMp) (ho := by first | decide | (simp only [rowOf_size]; omega) | (simp; done)) (h := ?_); clear hm; intro w1 hm; (try simp only [rowOf_set, k1, k2, k3, Value.cells, Act.eval, k7, k8, k9, kA, Option.getD_some] at hm)) | (refine wlA (hz := by first | exact zeroOne) (hm := hm) (h := ?_); clear hm; intro b1 w1 hm; (try simp only [rowOf_set, k1, k2, k3, Value.cells, Act.eval, k7, k8, k9, kA, Option.getD_some] at hm)) | (refine wl_box (by rfl) rfl (by first | exact idV_cells _ | exact labV_cells _ _ | exact rectV_cells _ _ _ _ | rfl) hm ?_; clear hm; intro b1 w1 hm) | (with_reducible first | refine stBs ?_ | refine stMs ?_ | refine stAp ?_ | refine stCo ?_)); (try simp only [k4, k5, k6, Act.put, k1, k2, k3]))
    go_ret
    exact ⟨rfl, hm.ext⟩

/-- A slice of ours, as it is read. -/
theorem IntSl.view {sv : Value} {o : List Int} {S : List (Nat × Obj)} (h : IntSl sv o S) : ∃ (c : Option Addr) (cap : Nat), sv = .slice c o.length cap ∧ ∀ {w0 w : World} {own : List Nat} {B : List (Nat × Obj)}, Mem w0 own (S ++ B) w → IntsV w c o.length (fun i => o.getD i 0) := by
  rcases h with ⟨rfl, rfl, rfl⟩ | ⟨g, cap, cur, s0, s1, s2, s3, s4, rfl, rfl⟩
  · exact ⟨none, 0, rfl, fun hm i hi => by simp at hi⟩
  · refine ⟨some ⟨g, 0, none⟩, cap, rfl, fun hm i hi => ⟨_, rfl, ?_⟩⟩
    rw [Addr.add_mid, hm.cell (i := 0) rfl, Nat.zero_add, s4 i (o.getD i 0) (by rw [List.getElem?_eq_getElem hi]; simp [hi])]

theorem fill_three (z : Value) (a b c : Int) : Instr.fill (fun i => some (i * 1, 1)) ((Array.range (3 * 1)).map fun i => z.cells[i % z.cells.size]!) [(0, .int .i64 a), (1, .int .i64 b), (2, .int .i64 c)] = some #[.int .i64 a, .int .i64 b, .int .i64 c] := by
  simp [Instr.fill, Value.cells, show Array.range 3 = #[0, 1, 2] from rfl]
theorem timed_c : Says 19 #[] (.bool true) := by
  intro w
  have hK : Ticks 5 (setL 9 2 (setL 3 5 (setL 7 5 []))) [9, 3, 7] [] :=
    .step _ (9, 2) _ _ ⟨by decide, by decide⟩ (by decide) (.step _ (3, 5) _ _ ⟨by decide, by decide⟩ (by decide) (.step _ (7, 5) _ _ ⟨by decide, by decide⟩ (by decide) (.stop _ (by decide))))
  have hF : First (setL 9 2 (setL 3 5 (setL 7 5 []))) (9, 2) := ⟨by decide, by decide⟩
  go_enter Try.func19, Try.ntmps19
  go_wp2_with ((first | refine wpList_skip (by rfl) ?_ | (refine wlL (hm := hm) (hu := by first | exact undOne) (hi := by (try simp only [rowOf_size]); first | exact sizeOne) (h := ?_); (try simp only [Act.put, k1, k2, k3]); (try simp only [List.nil_append])) | refine wlLC (hm := hm) (hu := by first | exact undInt | exact undSl | exact undMp) (h := ?_) | (refine wlS (hm := hm) (hv := (by first | rfl | exact idV_eq _ | exact labV_eq _ _ | exact rectV_eq _ _ _ _)) (hi := by (try simp only [rowOf_size]); first | exact sizeOne) (hs := by first | (simp only [rowOf_size]; done) | rfl) (h := ?_); clear hm; intro w1 hm; (try simp only [rowOf_set, k1, k2, k3, Value.cells, Act.eval, k7, k8, k9, kA, Option.getD_some] at hm)) | (refine wlSC (hm := hm) (hi := by first | exact sizeInt | exact sizeSl | exact sizeMp) (ho := by first | decide | (simp only [rowOf_size]; omega) | (simp; done)) (h := ?_); clear hm; intro w1 hm; (try simp only [rowOf_set, k1, k2, k3, Value.cells, Act.eval, k7, k8, k9, kA, Option.getD_some] at hm)) | (refine wlA (hz := by first | exact zeroOne) (hm := hm) (h := ?_); clear hm; intro b1 w1 hm; (try simp only [rowOf_set, k1, k2, k3, Value.cells, Act.eval, k7, k8, k9, kA, Option.getD_some] at hm)) | (refine wl_box (by rfl) rfl (by first | exact idV_cells _ | exact labV_cells _ _ | exact rectV_cells _ _ _ _ | rfl) hm ?_; clear hm; intro b1 w1 hm) | (with_reducible first | refine stBs ?_ | refine stMs ?_ | refine stAp ?_ | refine stCo ?_)); (try simp only [k4, k5, k6, Act.put, k1, k2, k3]))
  refine (new_c _).mono ?_
  rintro e w1 ⟨tb, mb, rfl, hm⟩
  have hT := TmIs.fresh tb mb
  generalize ([(tb, _), (mb, _)] : List (Nat × Obj)) = B at hT hm
  go_wp2_with ((first | refine wpList_skip (by rfl) ?_ | (refine wlL (hm := hm) (hu := by first | exact undOne) (hi := by (try simp only [rowOf_size]); first | exact sizeOne) (h := ?_); (try simp only [Act.put, k1, k2, k3]); (try simp only [List.nil_append])) | refine wlLC (hm := hm) (hu := by first | exact undInt | exact undSl | exact undMp) (h := ?_) | (refine wlS (hm := hm) (hv := (by first | rfl | exact idV_eq _ | exact labV_eq _ _ | exact rectV_eq _ _ _ _)) (hi := by (try simp only [rowOf_size]); first | exact sizeOne) (hs := by first | (simp only [rowOf_size]; done) | rfl) (h := ?_); clear hm; intro w1 hm; (try simp only [rowOf_set, k1, k2, k3, Value.cells, Act.eval, k7, k8, k9, kA, Option.getD_some] at hm)) | (refine wlSC (hm := hm) (hi := by first | exact sizeInt | exact sizeSl | exact sizeMp) (ho := by first | decide | (simp only [rowOf_size]; omega) | (simp; done)) (h := ?_); clear hm; intro w1 hm; (try simp only [rowOf_set, k1, k2, k3, Value.cells, Act.eval, k7, k8, k9, kA, Option.getD_some] at hm)) | (refine wlA (hz := by first | exact zeroOne) (hm := hm) (h := ?_); clear hm; intro b1 w1 hm; (try simp only [rowOf_set, k1, k2, k3, Value.cells, Act.eval, k7, k8, k9, kA, Option.getD_some] at hm)) | (refine wl_box (by rfl) rfl (by first | exact idV_cells _ | exact labV_cells _ _ | exact rectV_cells _ _ _ _ | rfl) hm ?_; clear hm; intro b1 w1 hm) | (with_reducible first | refine stBs ?_ | refine stMs ?_ | refine stAp ?_ | refine stCo ?_)); (try simp only [k4, k5, k6, Act.put, k1, k2, k3]))
  refine ((tm_set tb 0 7 5 [] (by decide) (.inr (by decide))).use (A := []) hT hm).mono ?_
  clear hm hT; rintro e w2 ⟨rfl, B2, hT, hm⟩
  go_wp2_with ((first | refine wpList_skip (by rfl) ?_ | (refine wlL (hm := hm) (hu := by first | exact undOne) (hi := by (try simp only [rowOf_size]); first | exact sizeOne) (h := ?_); (try simp only [Act.put, k1, k2, k3]); (try simp only [List.nil_append])) | refine wlLC (hm := hm) (hu := by first | exact undInt | exact undSl | exact undMp) (h := ?_) | (refine wlS (hm := hm) (hv := (by first | rfl | exact idV_eq _ | exact labV_eq _ _ | exact rectV_eq _ _ _ _)) (hi := by (try simp only [rowOf_size]); first | exact sizeOne) (hs := by first | (simp only [rowOf_size]; done) | rfl) (h := ?_); clear hm; intro w1 hm; (try simp only [rowOf_set, k1, k2, k3, Value.cells, Act.eval, k7, k8, k9, kA, Option.getD_some] at hm)) | (refine wlSC (hm := hm) (hi := by first | exact sizeInt | exact sizeSl | exact sizeMp) (ho := by first | decide | (simp only [rowOf_size]; omega) | (simp; done)) (h := ?_); clear hm; intro w1 hm; (try simp only [rowOf_set, k1, k2, k3, Value.cells, Act.eval, k7, k8, k9, kA, Option.getD_some] at hm)) | (refine wlA (hz := by first | exact zeroOne) (hm := hm) (h := ?_); clear hm; intro b1 w1 hm; (try simp only [rowOf_set, k1, k2, k3, Value.cells, Act.eval, k7, k8, k9, kA, Option.getD_some] at hm)) | (refine wl_box (by rfl) rfl (by first | exact idV_cells _ | exact labV_cells _ _ | exact rectV_cells _ _ _ _ | rfl) hm ?_; clear hm; intro b1 w1 hm) | (with_reducible first | refine stBs ?_ | refine stMs ?_ | refine stAp ?_ | refine stCo ?_)); (try simp only [k4, k5, k6, Act.put, k1, k2, k3]))
  refine ((tm_set tb 0 3 5 _ (by decide) (.inr (by decide))).use (A := []) hT hm).mono ?_
  clear hm hT; rintro e w2 ⟨rfl, B2, hT, hm⟩
  go_wp2_with ((first | refine wpList_skip (by rfl) ?_ | (refine wlL (hm := hm) (hu := by first | exact undOne) (hi := by (try simp only [rowOf_size]); first | exact sizeOne) (h := ?_); (try simp only [Act.put, k1, k2, k3]); (try simp only [List.nil_append])) | refine wlLC (hm := hm) (hu := by first | exact undInt | exact undSl | exact undMp) (h := ?_) | (refine wlS (hm := hm) (hv := (by first | rfl | exact idV_eq _ | exact labV_eq _ _ | exact rectV_eq _ _ _ _)) (hi := by (try simp only [rowOf_size]); first | exact sizeOne) (hs := by first | (simp only [rowOf_size]; done) | rfl) (h := ?_); clear hm; intro w1 hm; (try simp only [rowOf_set, k1, k2, k3, Value.cells, Act.eval, k7, k8, k9, kA, Option.getD_some] at hm)) | (refine wlSC (hm := hm) (hi := by first | exact sizeInt | exact sizeSl | exact sizeMp) (ho := by first | decide | (simp only [rowOf_size]; omega) | (simp; done)) (h := ?_); clear hm; intro w1 hm; (try simp only [rowOf_set, k1, k2, k3, Value.cells, Act.eval, k7, k8, k9, kA, Option.getD_some] at hm)) | (refine wlA (hz := by first | exact zeroOne) (hm := hm) (h := ?_); clear hm; intro b1 w1 hm; (try simp only [rowOf_set, k1, k2, k3, Value.cells, Act.eval, k7, k8, k9, kA, Option.getD_some] at hm)) | (refine wl_box (by rfl) rfl (by first | exact idV_cells _ | exact labV_cells _ _ | exact rectV_cells _ _ _ _ | rfl) hm ?_; clear hm; intro b1 w1 hm) | (with_reducible first | refine stBs ?_ | refine stMs ?_ | refine stAp ?_ | refine stCo ?_)); (try simp only [k4, k5, k6, Act.put, k1, k2, k3]))
  refine ((tm_set tb 0 9 2 _ (by decide) (.inr (by decide))).use (A := []) hT hm).mono ?_
  clear hm hT; rintro e w2 ⟨rfl, B2, hT, hm⟩
  go_wp2_with ((first | refine wpList_skip (by rfl) ?_ | (refine wlL (hm := hm) (hu := by first | exact undOne) (hi := by (try simp only [rowOf_size]); first | exact sizeOne) (h := ?_); (try simp only [Act.put, k1, k2, k3]); (try simp only [List.nil_append])) | refine wlLC (hm := hm) (hu := by first | exact undInt | exact undSl | exact undMp) (h := ?_) | (refine wlS (hm := hm) (hv := (by first | rfl | exact idV_eq _ | exact labV_eq _ _ | exact rectV_eq _ _ _ _)) (hi := by (try simp only [rowOf_size]); first | exact sizeOne) (hs := by first | (simp only [rowOf_size]; done) | rfl) (h := ?_); clear hm; intro w1 hm; (try simp only [rowOf_set, k1, k2, k3, Value.cells, Act.eval, k7, k8, k9, kA, Option.getD_some] at hm)) | (refine wlSC (hm := hm) (hi := by first | exact sizeInt | exact sizeSl | exact sizeMp) (ho := by first | decide | (simp only [rowOf_size]; omega) | (simp; done)) (h := ?_); clear hm; intro w1 hm; (try simp only [rowOf_set, k1, k2, k3, Value.cells, Act.eval, k7, k8, k9, kA, Option.getD_some] at hm)) | (refine wlA (hz := by first | exact zeroOne) (hm := hm) (h := ?_); clear hm; intro b1 w1 hm; (try simp only [rowOf_set, k1, k2, k3, Value.cells, Act.eval, k7, k8, k9, kA, Option.getD_some] at hm)) | (refine wl_box (by rfl) rfl (by first | exact idV_cells _ | exact labV_cells _ _ | exact rectV_cells _ _ _ _ | rfl) hm ?_; clear hm; intro b1 w1 hm) | (with_reducible first | refine stBs ?_ | refine stMs ?_ | refine stAp ?_ | refine stCo ?_)); (try simp only [k4, k5, k6, Act.put, k1, k2, k3]))
  refine ((tm_next1 tb 0 _ _ hF).use (A := []) hT hm).mono ?_
  clear hm hT; rintro e w2 ⟨rfl, B2, hT, hm⟩
  go_wp2_with ((first | refine wpList_skip (by rfl) ?_ | (refine wlL (hm := hm) (hu := by first | exact undOne) (hi := by (try simp only [rowOf_size]); first | exact sizeOne) (h := ?_); (try simp only [Act.put, k1, k2, k3]); (try simp only [List.nil_append])) | refine wlLC (hm := hm) (hu := by first | exact undInt | exact undSl | exact undMp) (h := ?_) | (refine wlS (hm := hm) (hv := (by first | rfl | exact idV_eq _ | exact labV_eq _ _ | exact rectV_eq _ _ _ _)) (hi := by (try simp only [rowOf_size]); first | exact sizeOne) (hs := by first | (simp only [rowOf_size]; done) | rfl) (h := ?_); clear hm; intro w1 hm; (try simp only [rowOf_set, k1, k2, k3, Value.cells, Act.eval, k7, k8, k9, kA, Option.getD_some] at hm)) | (refine wlSC (hm := hm) (hi := by first | exact sizeInt | exact sizeSl | exact sizeMp) (ho := by first | decide | (simp only [rowOf_size]; omega) | (simp; done)) (h := ?_); clear hm; intro w1 hm; (try simp only [rowOf_set, k1, k2, k3, Value.cells, Act.eval, k7, k8, k9, kA, Option.getD_some] at hm)) | (refine wlA (hz := by first | exact zeroOne) (hm := hm) (h := ?_); clear hm; intro b1 w1 hm; (try simp only [rowOf_set, k1, k2, k3, Value.cells, Act.eval, k7, k8, k9, kA, Option.getD_some] at hm)) | (refine wl_box (by rfl) rfl (by first | exact idV_cells _ | exact labV_cells _ _ | exact rectV_cells _ _ _ _ | rfl) hm ?_; clear hm; intro b1 w1 hm) | (with_reducible first | refine stBs ?_ | refine stMs ?_ | refine stAp ?_ | refine stCo ?_)); (try simp only [k4, k5, k6, Act.put, k1, k2, k3]))
  have hm0 : Mem _ _ B2 _ := hm
  refine (tick_c tb 0 5 _ _ _ (by decide) hK _ _ hT hm0.self).mono ?_
  rintro e w3 hx
  obtain ⟨sv, S, B3, rfl, hS, hT3, hx⟩ := hx.out
  replace hm := hm0.callAll hx
  clear hx hT hm0
  obtain ⟨c, cap, rfl, hv⟩ := hS.view
  go_wp2_with ((first | refine wpList_skip (by rfl) ?_ | (refine wlL (hm := hm) (hu := by first | exact undOne) (hi := by (try simp only [rowOf_size]); first | exact sizeOne) (h := ?_); (try simp only [Act.put, k1, k2, k3]); (try simp only [List.nil_append])) | refine wlLC (hm := hm) (hu := by first | exact undInt | exact undSl | exact undMp) (h := ?_) | (refine wlS (hm := hm) (hv := (by first | rfl | exact idV_eq _ | exact labV_eq _ _ | exact rectV_eq _ _ _ _)) (hi := by (try simp only [rowOf_size]); first | exact sizeOne) (hs := by first | (simp only [rowOf_size]; done) | rfl) (h := ?_); clear hm; intro w1 hm; (try simp only [rowOf_set, k1, k2, k3, Value.cells, Act.eval, k7, k8, k9, kA, Option.getD_some] at hm)) | (refine wlSC (hm := hm) (hi := by first | exact sizeInt | exact sizeSl | exact sizeMp) (ho := by first | decide | (simp only [rowOf_size]; omega) | (simp; done)) (h := ?_); clear hm; intro w1 hm; (try simp only [rowOf_set, k1, k2, k3, Value.cells, Act.eval, k7, k8, k9, kA, Option.getD_some] at hm)) | (refine wlA (hz := by first | exact zeroOne) (hm := hm) (h := ?_); clear hm; intro b1 w1 hm; (try simp only [rowOf_set, k1, k2, k3, Value.cells, Act.eval, k7, k8, k9, kA, Option.getD_some] at hm)) | (refine wl_box (by rfl) rfl (by first | exact idV_cells _ | exact labV_cells _ _ | exact rectV_cells _ _ _ _ | rfl) hm ?_; clear hm; intro b1 w1 hm) | (with_reducible first | refine stBs ?_ | refine stMs ?_ | refine stAp ?_ | refine stCo ?_)); (try simp only [k4, k5, k6, Act.put, k1, k2, k3]))
  refine Stop.go (wl_buildSlice (ps := [(0, .int .i64 9), (1, .int .i64 3), (2, .int .i64 7)]) (cells := #[.int .i64 9, .int .i64 3, .int .i64 7]) (by rfl) hm elInt (by decide) (by decide) (by simp [Act.eval]) (fill_three _ _ _ _) ?_)
  clear hm; intro gn w4 hm; simp only [Act.put, k1, k2, k3]
  have hv1 := hv hm.tail
  have hv2 : IntsV w4 (some ⟨gn, 0, none⟩) 3 (fun i => [9, 3, 7].getD i 0) := fun i hi => ⟨_, rfl, by
    rw [Addr.add_mid, hm.cell (i := 0) rfl]
    match i, hi with
    | 0, _ => rfl
    | 1, _ => rfl
    | 2, _ => rfl⟩
  go_wp2_with ((first | refine wpList_skip (by rfl) ?_ | (refine wlL (hm := hm) (hu := by first | exact undOne) (hi := by (try simp only [rowOf_size]); first | exact sizeOne) (h := ?_); (try simp only [Act.put, k1, k2, k3]); (try simp only [List.nil_append])) | refine wlLC (hm := hm) (hu := by first | exact undInt | exact undSl | exact undMp) (h := ?_) | (refine wlS (hm := hm) (hv := (by first | rfl | exact idV_eq _ | exact labV_eq _ _ | exact rectV_eq _ _ _ _)) (hi := by (try simp only [rowOf_size]); first | exact sizeOne) (hs := by first | (simp only [rowOf_size]; done) | rfl) (h := ?_); clear hm; intro w1 hm; (try simp only [rowOf_set, k1, k2, k3, Value.cells, Act.eval, k7, k8, k9, kA, Option.getD_some] at hm)) | (refine wlSC (hm := hm) (hi := by first | exact sizeInt | exact sizeSl | exact sizeMp) (ho := by first | decide | (simp only [rowOf_size]; omega) | (simp; done)) (h := ?_); clear hm; intro w1 hm; (try simp only [rowOf_set, k1, k2, k3, Value.cells, Act.eval, k7, k8, k9, kA, Option.getD_some] at hm)) | (refine wlA (hz := by first | exact zeroOne) (hm := hm) (h := ?_); clear hm; intro b1 w1 hm; (try simp only [rowOf_set, k1, k2, k3, Value.cells, Act.eval, k7, k8, k9, kA, Option.getD_some] at hm)) | (refine wl_box (by rfl) rfl (by first | exact idV_cells _ | exact labV_cells _ _ | exact rectV_cells _ _ _ _ | rfl) hm ?_; clear hm; intro b1 w1 hm) | (with_reducible first | refine stBs ?_ | refine stMs ?_ | refine stAp ?_ | refine stCo ?_)); (try simp only [k4, k5, k6, Act.put, k1, k2, k3]))
  refine (ints_c c 3 cap _ (some ⟨gn, 0, none⟩) 3 3 _ (by decide) _ hv1 hv2).mono ?_
  rintro e w5 ⟨rfl, hx⟩
  replace hm := hm.call hx
  clear hx hv1 hv2 hv hS
  rw [sameInts_all (fun i _ => rfl)]
  go_wp2_with ((first | refine wpList_skip (by rfl) ?_ | (refine wlL (hm := hm) (hu := by first | exact undOne) (hi := by (try simp only [rowOf_size]); first | exact sizeOne) (h := ?_); (try simp only [Act.put, k1, k2, k3]); (try simp only [List.nil_append])) | refine wlLC (hm := hm) (hu := by first | exact undInt | exact undSl | exact undMp) (h := ?_) | (refine wlS (hm := hm) (hv := (by first | rfl | exact idV_eq _ | exact labV_eq _ _ | exact rectV_eq _ _ _ _)) (hi := by (try simp only [rowOf_size]); first | exact sizeOne) (hs := by first | (simp only [rowOf_size]; done) | rfl) (h := ?_); clear hm; intro w1 hm; (try simp only [rowOf_set, k1, k2, k3, Value.cells, Act.eval, k7, k8, k9, kA, Option.getD_some] at hm)) | (refine wlSC (hm := hm) (hi := by first | exact sizeInt | exact sizeSl | exact sizeMp) (ho := by first | decide | (simp only [rowOf_size]; omega) | (simp; done)) (h := ?_); clear hm; intro w1 hm; (try simp only [rowOf_set, k1, k2, k3, Value.cells, Act.eval, k7, k8, k9, kA, Option.getD_some] at hm)) | (refine wlA (hz := by first | exact zeroOne) (hm := hm) (h := ?_); clear hm; intro b1 w1 hm; (try simp only [rowOf_set, k1, k2, k3, Value.cells, Act.eval, k7, k8, k9, kA, Option.getD_some] at hm)) | (refine wl_box (by rfl) rfl (by first | exact idV_cells _ | exact labV_cells _ _ | exact rectV_cells _ _ _ _ | rfl) hm ?_; clear hm; intro b1 w1 hm) | (with_reducible first | refine stBs ?_ | refine stMs ?_ | refine stAp ?_ | refine stCo ?_)); (try simp only [k4, k5, k6, Act.put, k1, k2, k3]))
  refine ((tm_now tb 5 []).use (A := _ :: S) hT3 hm).mono ?_
  clear hm hT3; rintro e w2 ⟨rfl, B4, hT, hm⟩
  go_wp2_with ((first | refine wpList_skip (by rfl) ?_ | (refine wlL (hm := hm) (hu := by first | exact undOne) (hi := by (try simp only [rowOf_size]); first | exact sizeOne) (h := ?_); (try simp only [Act.put, k1, k2, k3]); (try simp only [List.nil_append])) | refine wlLC (hm := hm) (hu := by first | exact undInt | exact undSl | exact undMp) (h := ?_) | (refine wlS (hm := hm) (hv := (by first | rfl | exact idV_eq _ | exact labV_eq _ _ | exact rectV_eq _ _ _ _)) (hi := by (try simp only [rowOf_size]); first | exact sizeOne) (hs := by first | (simp only [rowOf_size]; done) | rfl) (h := ?_); clear hm; intro w1 hm; (try simp only [rowOf_set, k1, k2, k3, Value.cells, Act.eval, k7, k8, k9, kA, Option.getD_some] at hm)) | (refine wlSC (hm := hm) (hi := by first | exact sizeInt | exact sizeSl | exact sizeMp) (ho := by first | decide | (simp only [rowOf_size]; omega) | (simp; done)) (h := ?_); clear hm; intro w1 hm; (try simp only [rowOf_set, k1, k2, k3, Value.cells, Act.eval, k7, k8, k9, kA, Option.getD_some] at hm)) | (refine wlA (hz := by first | exact zeroOne) (hm := hm) (h := ?_); clear hm; intro b1 w1 hm; (try simp only [rowOf_set, k1, k2, k3, Value.cells, Act.eval, k7, k8, k9, kA, Option.getD_some] at hm)) | (refine wl_box (by rfl) rfl (by first | exact idV_cells _ | exact labV_cells _ _ | exact rectV_cells _ _ _ _ | rfl) hm ?_; clear hm; intro b1 w1 hm) | (with_reducible first | refine stBs ?_ | refine stMs ?_ | refine stAp ?_ | refine stCo ?_)); (try simp only [k4, k5, k6, Act.put, k1, k2, k3]))
  refine ((tm_size tb 5 []).use (A := _ :: S) hT hm).mono ?_
  clear hm hT; rintro e w2 ⟨rfl, B5, hT, hm⟩
  go_wp2_with ((first | refine wpList_skip (by rfl) ?_ | (refine wlL (hm := hm) (hu := by first | exact undOne) (hi := by (try simp only [rowOf_size]); first | exact sizeOne) (h := ?_); (try simp only [Act.put, k1, k2, k3]); (try simp only [List.nil_append])) | refine wlLC (hm := hm) (hu := by first | exact undInt | exact undSl | exact undMp) (h := ?_) | (refine wlS (hm := hm) (hv := (by first | rfl | exact idV_eq _ | exact labV_eq _ _ | exact rectV_eq _ _ _ _)) (hi := by (try simp only [rowOf_size]); first | exact sizeOne) (hs := by first | (simp only [rowOf_size]; done) | rfl) (h := ?_); clear hm; intro w1 hm; (try simp only [rowOf_set, k1, k2, k3, Value.cells, Act.eval, k7, k8, k9, kA, Option.getD_some] at hm)) | (refine wlSC (hm := hm) (hi := by first | exact sizeInt | exact sizeSl | exact sizeMp) (ho := by first | decide | (simp only [rowOf_size]; omega) | (simp; done)) (h := ?_); clear hm; intro w1 hm; (try simp only [rowOf_set, k1, k2, k3, Value.cells, Act.eval, k7, k8, k9, kA, Option.getD_some] at hm)) | (refine wlA (hz := by first | exact zeroOne) (hm := hm) (h := ?_); clear hm; intro b1 w1 hm; (try simp only [rowOf_set, k1, k2, k3, Value.cells, Act.eval, k7, k8, k9, kA, Option.getD_some] at hm)) | (refine wl_box (by rfl) rfl (by first | exact idV_cells _ | exact labV_cells _ _ | exact rectV_cells _ _ _ _ | rfl) hm ?_; clear hm; intro b1 w1 hm) | (with_reducible first | refine stBs ?_ | refine stMs ?_ | refine stAp ?_ | refine stCo ?_)); (try simp only [k4, k5, k6, Act.put, k1, k2, k3]))
  refine ((tm_set_arg tb 5 1 4 [] (by decide)).use (A := _ :: S) hT hm).mono ?_
  clear hm hT; rintro e w2 ⟨rfl, B6, hT, hm⟩
  go_wp2_with ((first | refine wpList_skip (by rfl) ?_ | (refine wlL (hm := hm) (hu := by first | exact undOne) (hi := by (try simp only [rowOf_size]); first | exact sizeOne) (h := ?_); (try simp only [Act.put, k1, k2, k3]); (try simp only [List.nil_append])) | refine wlLC (hm := hm) (hu := by first | exact undInt | exact undSl | exact undMp) (h := ?_) | (refine wlS (hm := hm) (hv := (by first | rfl | exact idV_eq _ | exact labV_eq _ _ | exact rectV_eq _ _ _ _)) (hi := by (try simp only [rowOf_size]); first | exact sizeOne) (hs := by first | (simp only [rowOf_size]; done) | rfl) (h := ?_); clear hm; intro w1 hm; (try simp only [rowOf_set, k1, k2, k3, Value.cells, Act.eval, k7, k8, k9, kA, Option.getD_some] at hm)) | (refine wlSC (hm := hm) (hi := by first | exact sizeInt | exact sizeSl | exact sizeMp) (ho := by first | decide | (simp only [rowOf_size]; omega) | (simp; done)) (h := ?_); clear hm; intro w1 hm; (try simp only [rowOf_set, k1, k2, k3, Value.cells, Act.eval, k7, k8, k9, kA, Option.getD_some] at hm)) | (refine wlA (hz := by first | exact zeroOne) (hm := hm) (h := ?_); clear hm; intro b1 w1 hm; (try simp only [rowOf_set, k1, k2, k3, Value.cells, Act.eval, k7, k8, k9, kA, Option.getD_some] at hm)) | (refine wl_box (by rfl) rfl (by first | exact idV_cells _ | exact labV_cells _ _ | exact rectV_cells _ _ _ _ | rfl) hm ?_; clear hm; intro b1 w1 hm) | (with_reducible first | refine stBs ?_ | refine stMs ?_ | refine stAp ?_ | refine stCo ?_)); (try simp only [k4, k5, k6, Act.put, k1, k2, k3]))
  go_ret
  exact ⟨rfl, hm.ext⟩
theorem nil_c (id x : Int) : Says 6 #[.int .i64 id, .int .i64 x] (.bool true) := by
  intro w
  go_enter Try.func6, Try.ntmps6
  have hm := Mem.refl w []
  go_wp2_with ((first | refine wpList_skip (by rfl) ?_ | (refine wlL (hm := hm) (hu := by first | exact undOne) (hi := by (try simp only [rowOf_size]); first | exact sizeOne) (h := ?_); (try simp only [Act.put, k1, k2, k3]); (try simp only [List.nil_append])) | refine wlLC (hm := hm) (hu := by first | exact undInt | exact undSl | exact undMp) (h := ?_) | (refine wlS (hm := hm) (hv := (by first | rfl | exact idV_eq _ | exact labV_eq _ _ | exact rectV_eq _ _ _ _)) (hi := by (try simp only [rowOf_size]); first | exact sizeOne) (hs := by first | (simp only [rowOf_size]; done) | rfl) (h := ?_); clear hm; intro w1 hm; (try simp only [rowOf_set, k1, k2, k3, Value.cells, Act.eval, k7, k8, k9, kA, Option.getD_some] at hm)) | (refine wlSC (hm := hm) (hi := by first | exact sizeInt | exact sizeSl | exact sizeMp) (ho := by first | decide | (simp only [rowOf_size]; omega) | (simp; done)) (h := ?_); clear hm; intro w1 hm; (try simp only [rowOf_set, k1, k2, k3, Value.cells, Act.eval, k7, k8, k9, kA, Option.getD_some] at hm)) | (refine wlA (hz := by first | exact zeroOne) (hm := hm) (h := ?_); clear hm; intro b1 w1 hm; (try simp only [rowOf_set, k1, k2, k3, Value.cells, Act.eval, k7, k8, k9, kA, Option.getD_some] at hm)) | (refine wl_box (by rfl) rfl (by first | exact idV_cells _ | exact labV_cells _ _ | exact rectV_cells _ _ _ _ | rfl) hm ?_; clear hm; intro b1 w1 hm) | (go_at_call 12; refine (tick_nilp _ _).mono ?_; rintro e w1 ⟨rfl, hx⟩; replace hm := hm.call hx; clear hx) | (go_at_call 15; refine (next_nil _).mono ?_; rintro e w1 ⟨rfl, hx⟩; replace hm := hm.call hx; clear hx) | (go_at_call 19; refine (timed_c _).mono ?_; rintro e w1 ⟨rfl, hx⟩; replace hm := hm.call hx; clear hx) | (go_at_call 8; refine (set_nilp _ _ _).mono ?_; rintro e w1 ⟨rfl, hx⟩; replace hm := hm.call hx; clear hx) | (go_at_call 10; refine (cancel_nilp _ _).mono ?_; rintro e w1 ⟨rfl, hx⟩; replace hm := hm.call hx; clear hx) | (go_at_call 17; refine (now_nil _).mono ?_; rintro e w1 ⟨rfl, hx⟩; replace hm := hm.call hx; clear hx) | (go_at_call 18; refine (size_nil _).mono ?_; rintro e w1 ⟨rfl, hx⟩; replace hm := hm.call hx; clear hx) | (with_reducible first | refine stBs ?_ | refine stMs ?_ | refine stAp ?_ | refine stCo ?_)); (try simp only [k4, k5, k6, Act.put, k1, k2, k3]))
  go_ret
  exact ⟨rfl, hm.ext⟩
end Go.Proofs.Ythcpdjlomdchdaa
