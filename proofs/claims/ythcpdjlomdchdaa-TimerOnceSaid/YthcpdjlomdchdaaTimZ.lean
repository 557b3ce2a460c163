/-
  Timers: each is told once, at its time, rising: walked.
-/
import Derived.Test.YthcpdjlomdchdaaTimY
import Derived.BigQuiet
import Derived.Deep.CutRange
namespace Go.Proofs.Ythcpdjlomdchdaa
open Go.RowKit
set_option linter.unusedSimpArgs false
set_option linter.unusedVariables false
set_option maxHeartbeats 2000000
set_option maxRecDepth 20000

theorem undBool : Try.prog.underlying 4 = some .bool := by kernel_rfl
theorem sizeBool : (Try.prog.info? 4).map (·.size) = some 1 := by kernel_rfl
theorem elBool : El Try.prog 45 4 1 1 (.bool false) := El.mk (by kernel_rfl) (by kernel_rfl)
attribute [local irreducible] wpQuiet wpList wpAnyH wpAnyG Calls

theorem once_out (c : Option Addr) (n cap : Nat) (i tt : Int) (h : 100 < n ∨ tt < 0) : Says 5 #[.slice c n cap, .int .i64 i, .int .i64 tt] (.bool true) := by
  intro w
  by_cases h1 : 100 < n
  · have g1 : decide ((100 : Int) < (n : Int)) = true := by rw [decide_eq_true_eq]; omega
    go_enter Try.func5, Try.ntmps5
    have hm := Mem.refl w []
    go_wp2_with ((first | refine wpList_skip (by rfl) ?_ | (refine wlL (hm := hm) (hu := by first | exact undOne) (hi := by (try simp only [rowOf_size]); first | exact sizeOne) (h := ?_); (try simp only [Act.put, k1, k2, k3]); (try simp only [List.nil_append])) | refine wlLC (hm := hm) (hu := by first | exact undBool) (h := ?_) | (refine wlS (hm := hm) (hv := (by first | rfl | exact idV_eq _ | exact labV_eq _ _ | exact rectV_eq _ _ _ _)) (hi := by (try simp only [rowOf_size]); first | exact sizeOne) (hs := by first | (simp only [rowOf_size]; done) | rfl) (h := ?_); clear hm; intro w1 hm; (try simp only [rowOf_set, k1, k2, k3, Value.cells, Act.eval, k7, k8, k9, kA, Option.getD_some] at hm)) | (refine wlSC (hm := hm) (hi := by first | exact sizeBool) (ho := by first | decide | (simp only [rowOf_size]; omega) | (simp; done)) (h := ?_); clear hm; intro w1 hm; (try simp only [rowOf_set, k1, k2, k3, Value.cells, Act.eval, k7, k8, k9, kA, Option.getD_some] at hm)) | (refine wlA (hz := by first | exact zeroOne) (hm := hm) (h := ?_); clear hm; intro b1 w1 hm; (try simp only [rowOf_set, k1, k2, k3, Value.cells, Act.eval, k7, k8, k9, kA, Option.getD_some] at hm)) | (refine wl_box (by rfl) rfl (by first | exact idV_cells _ | exact labV_cells _ _ | exact rectV_cells _ _ _ _ | rfl) hm ?_; clear hm; intro b1 w1 hm) | (go_at_call 19; refine (timed_c _).mono ?_; rintro e w1 ⟨rfl, hx⟩; replace hm := hm.call hx; clear hx) | (with_reducible first | refine stBs ?_ | refine stMs ?_ | refine stAp ?_ | refine stCo ?_)); (try simp only [k4, k5, k6, Act.put, k1, k2, k3]))
    go_ret
    exact ⟨rfl, hm.ext⟩
  · have g1 : decide ((100 : Int) < (n : Int)) = false := by rw [decide_eq_false_iff_not]; omega
    have g2 : decide (tt < 0) = true := decide_eq_true (by omega)
    go_enter Try.func5, Try.ntmps5
    have hm := Mem.refl w []
    go_wp2_with ((first | refine wpList_skip (by rfl) ?_ | (refine wlL (hm := hm) (hu := by first | exact undOne) (hi := by (try simp only [rowOf_size]); first | exact sizeOne) (h := ?_); (try simp only [Act.put, k1, k2, k3]); (try simp only [List.nil_append])) | refine wlLC (hm := hm) (hu := by first | exact undBool) (h := ?_) | (refine wlS (hm := hm) (hv := (by first | rfl | exact idV_eq _ | exact labV_eq _ _ | exact rectV_eq _ _ _ _)) (hi := by (try simp only [rowOf_size]); first | exact sizeOne) (hs := by first | (simp only [rowOf_size]; done) | rfl) (h := ?_); clear hm; intro w1 hm; (try simp only [rowOf_set, k1, k2, k3, Value.cells, Act.eval, k7, k8, k9, kA, Option.getD_some] at hm)) | (refine wlSC (hm := hm) (hi := by first | exact sizeBool) (ho := by first | decide | (simp only [rowOf_size]; omega) | (simp; done)) (h := ?_); clear hm; intro w1 hm; (try simp only [rowOf_set, k1, k2, k3, Value.cells, Act.eval, k7, k8, k9, kA, Option.getD_some] at hm)) | (refine wlA (hz := by first | exact zeroOne) (hm := hm) (h := ?_); clear hm; intro b1 w1 hm; (try simp only [rowOf_set, k1, k2, k3, Value.cells, Act.eval, k7, k8, k9, kA, Option.getD_some] at hm)) | (refine wl_box (by rfl) rfl (by first | exact idV_cells _ | exact labV_cells _ _ | exact rectV_cells _ _ _ _ | rfl) hm ?_; clear hm; intro b1 w1 hm) | (go_at_call 19; refine (timed_c _).mono ?_; rintro e w1 ⟨rfl, hx⟩; replace hm := hm.call hx; clear hx) | (with_reducible first | refine stBs ?_ | refine stMs ?_ | refine stAp ?_ | refine stCo ?_)); (try simp only [k4, k5, k6, Act.put, k1, k2, k3]))
    go_ret
    exact ⟨rfl, hm.ext⟩

/-- Which places the first k answers told. -/
def toldB (jn : Nat → Nat) (k j : Nat) : Bool := (List.range k).any fun k' => jn k' == j
theorem toldB_iff {jn : Nat → Nat} {k j : Nat} : toldB jn k j = true ↔ ∃ k', k' < k ∧ jn k' = j := by
  unfold toldB
  rw [List.any_eq_true]
  constructor
  · rintro ⟨k', h, e⟩
    exact ⟨k', List.mem_range.1 h, beq_iff_eq.1 e⟩
  · rintro ⟨k', h, e⟩
    exact ⟨k', List.mem_range.2 h, beq_iff_eq.2 e⟩
theorem toldB_no {jn : Nat → Nat} {k j : Nat} (h : ∀ k', k' < k → jn k' ≠ j) : toldB jn k j = false := by
  cases ht : toldB jn k j with
  | false => rfl
  | true =>
    obtain ⟨k', h1, h2⟩ := toldB_iff.1 ht
    exact (h k' h1 h2).elim
theorem toldB_succ (jn : Nat → Nat) (k j : Nat) : toldB jn (k + 1) j = (toldB jn k j || (jn k == j)) := by
  unfold toldB
  rw [List.range_succ, List.any_append]
  simp
def TB (cur : Array Value) (n : Nat) (jn : Nat → Nat) (k : Nat) : Prop := cur.size = n ∧ ∀ j, j < n → cur[j]? = some (.bool (toldB jn k j))
theorem TB.start (n : Nat) (jn : Nat → Nat) : TB (rowOf n fun _ => .bool false) n jn 0 := ⟨rowOf_size _ _, fun j hj => by
  rw [rowOf_get _ _ _ hj, toldB_no (fun k' hk => by omega)]⟩
theorem TB.step {cur : Array Value} {n : Nat} {jn : Nat → Nat} {k : Nat} (h : TB cur n jn k) (hk : jn k < n) : TB (cur.setIfInBounds (jn k) (.bool true)) n jn (k + 1) := by
  refine ⟨by rw [Array.size_setIfInBounds]; exact h.1, fun j hj => ?_⟩
  rw [toldB_succ, Array.getElem?_setIfInBounds]
  by_cases e : jn k = j
  · subst e
    simp [h.1, hk]
  · simp [e, h.2 j hj]
theorem IntsV.get {w : World} {a : Addr} {n : Nat} {z : Nat → Int} (h : IntsV w (some a) n z) {j : Nat} (hj : j < n) : w.cell? (a.add j) = some (.int .i64 (z j)) := by
  obtain ⟨a', e, hc⟩ := h j hj
  cases e
  exact hc
theorem three {p q r G : Prop} (h : p ∨ q ∨ r) (h1 : p → G) (h2 : q → G) (h3 : r → G) : G := h.elim h1 fun h => h.elim h2 h3
theorem Mem.drewN {w0 w : World} {own : List Nat} {L : List (Nat × Obj)} (h : Mem w0 own L w) : ∀ n, Mem w0 own L (w.drewN n)
  | 0 => h
  | n + 1 => by rw [← World.drewN_drewN (n := n) (m := 1)]; exact (Mem.drewN h n).drew
theorem undInt' : Try.prog.underlying 3 = some (.int .i64) := by kernel_rfl


theorem once_in (c : Option Addr) (n cap : Nat) (z : Nat → Int) (i tt : Int) (hn : n ≤ 100) (hto : ¬ tt < 0) (w : World) (h : IntsV w c n z) :
    Calls Try.prog 5 #[.slice c n cap, .int .i64 i, .int .i64 tt] w fun e w' => e = .returned (.bool true) ∧ Ext w w' := by
  have g1 : decide ((100 : Int) < (n : Int)) = false := by rw [decide_eq_false_iff_not]; omega
  have g2 : decide (tt < 0) = false := decide_eq_false hto
  have H := hid h
  go_enter Try.func5, Try.ntmps5
  go_wp2_with ((first | refine wpList_skip (by rfl) ?_ | (refine wlL (hm := hm) (hu := by first | exact undOne) (hi := by (try simp only [rowOf_size]); first | exact sizeOne) (h := ?_); (try simp only [Act.put, k1, k2, k3]); (try simp only [List.nil_append])) | refine wlLC (hm := hm) (hu := by first | exact undBool) (h := ?_) | (refine wlS (hm := hm) (hv := (by first | rfl | exact idV_eq _ | exact labV_eq _ _ | exact rectV_eq _ _ _ _)) (hi := by (try simp only [rowOf_size]); first | exact sizeOne) (hs := by first | (simp only [rowOf_size]; done) | rfl) (h := ?_); clear hm; intro w1 hm; (try simp only [rowOf_set, k1, k2, k3, Value.cells, Act.eval, k7, k8, k9, kA, Option.getD_some] at hm)) | (refine wlSC (hm := hm) (hi := by first | exact sizeBool) (ho := by first | decide | (simp only [rowOf_size]; omega) | (simp; done)) (h := ?_); clear hm; intro w1 hm; (try simp only [rowOf_set, k1, k2, k3, Value.cells, Act.eval, k7, k8, k9, kA, Option.getD_some] at hm)) | (refine wlA (hz := by first | exact zeroOne) (hm := hm) (h := ?_); clear hm; intro b1 w1 hm; (try simp only [rowOf_set, k1, k2, k3, Value.cells, Act.eval, k7, k8, k9, kA, Option.getD_some] at hm)) | (refine wl_box (by rfl) rfl (by first | exact idV_cells _ | exact labV_cells _ _ | exact rectV_cells _ _ _ _ | rfl) hm ?_; clear hm; intro b1 w1 hm) | (go_at_call 19; refine (timed_c _).mono ?_; rintro e w1 ⟨rfl, hx⟩; replace hm := hm.call hx; clear hx) | (with_reducible first | refine stBs ?_ | refine stMs ?_ | refine stAp ?_ | refine stCo ?_)); (try simp only [k4, k5, k6, Act.put, k1, k2, k3]))
  refine (set_ok c n cap z hn _ h).mono ?_
  rintro e w1 hx
  obtain ⟨tb, B, rfl, hT, hm⟩ := hx.out
  clear hx h
  obtain ⟨l1, o, l2, jn, hC1, hC2, hK, hlen, hrest⟩ := story tb z n i tt
  have hnd := hT.nodup
  replace hC1 := hC1 hnd
  obtain ⟨hK2, hS, ho⟩ := hrest hnd
  have hol : o.length ≤ 100 := Nat.le_trans hK.length (Nat.le_trans hlen (Nat.le_trans (setsL_length z n) hn))
  clear hnd hrest hlen
  go_upto_region 6 with fail
  go_cut [8] from 28 to 42 (fun s8 wx => ∃ th, thereB z n i = th ∧ s8 = .bool th ∧ wx = w1)
  case first =>
    refine three (p := i < 0) (q := (n : Int) ≤ i ∧ 0 ≤ i) (r := 0 ≤ i ∧ i < (n : Int)) ?_ ?_ ?_ ?_
    · by_cases h1 : i < 0
      · exact .inl h1
      · by_cases h2 : (n : Int) ≤ i
        · exact .inr (.inl ⟨h2, by omega⟩)
        · exact .inr (.inr ⟨by omega, by omega⟩)
    · intro h1
      have g3 : decide (0 ≤ i) = false := by rw [decide_eq_false_iff_not]; omega
      have ht := thereB_out z n i (.inl h1)
      clear h1
      go_wp2_with ((first | refine wpList_skip (by rfl) ?_ | (refine wlL (hm := hm) (hu := by first | exact undOne) (hi := by (try simp only [rowOf_size]); first | exact sizeOne) (h := ?_); (try simp only [Act.put, k1, k2, k3]); (try simp only [List.nil_append])) | refine wlLC (hm := hm) (hu := by first | exact undBool) (h := ?_) | (refine wlS (hm := hm) (hv := (by first | rfl | exact idV_eq _ | exact labV_eq _ _ | exact rectV_eq _ _ _ _)) (hi := by (try simp only [rowOf_size]); first | exact sizeOne) (hs := by first | (simp only [rowOf_size]; done) | rfl) (h := ?_); clear hm; intro w1 hm; (try simp only [rowOf_set, k1, k2, k3, Value.cells, Act.eval, k7, k8, k9, kA, Option.getD_some] at hm)) | (refine wlSC (hm := hm) (hi := by first | exact sizeBool) (ho := by first | decide | (simp only [rowOf_size]; omega) | (simp; done)) (h := ?_); clear hm; intro w1 hm; (try simp only [rowOf_set, k1, k2, k3, Value.cells, Act.eval, k7, k8, k9, kA, Option.getD_some] at hm)) | (refine wlA (hz := by first | exact zeroOne) (hm := hm) (h := ?_); clear hm; intro b1 w1 hm; (try simp only [rowOf_set, k1, k2, k3, Value.cells, Act.eval, k7, k8, k9, kA, Option.getD_some] at hm)) | (refine wl_box (by rfl) rfl (by first | exact idV_cells _ | exact labV_cells _ _ | exact rectV_cells _ _ _ _ | rfl) hm ?_; clear hm; intro b1 w1 hm) | (go_at_call 19; refine (timed_c _).mono ?_; rintro e w1 ⟨rfl, hx⟩; replace hm := hm.call hx; clear hx) | (with_reducible first | refine stBs ?_ | refine stMs ?_ | refine stAp ?_ | refine stCo ?_)); (try simp only [k4, k5, k6, Act.put, k1, k2, k3]))
      go_meet
      exact ⟨false, ht, rfl, rfl⟩
    · rintro ⟨h1, h0⟩
      have g3 : decide (0 ≤ i) = true := by rw [decide_eq_true_eq]; omega
      have g4 : decide (i < (n : Int)) = false := by rw [decide_eq_false_iff_not]; omega
      have ht := thereB_out z n i (.inr h1)
      clear h1 h0
      go_wp2_with ((first | refine wpList_skip (by rfl) ?_ | (refine wlL (hm := hm) (hu := by first | exact undOne) (hi := by (try simp only [rowOf_size]); first | exact sizeOne) (h := ?_); (try simp only [Act.put, k1, k2, k3]); (try simp only [List.nil_append])) | refine wlLC (hm := hm) (hu := by first | exact undBool) (h := ?_) | (refine wlS (hm := hm) (hv := (by first | rfl | exact idV_eq _ | exact labV_eq _ _ | exact rectV_eq _ _ _ _)) (hi := by (try simp only [rowOf_size]); first | exact sizeOne) (hs := by first | (simp only [rowOf_size]; done) | rfl) (h := ?_); clear hm; intro w1 hm; (try simp only [rowOf_set, k1, k2, k3, Value.cells, Act.eval, k7, k8, k9, kA, Option.getD_some] at hm)) | (refine wlSC (hm := hm) (hi := by first | exact sizeBool) (ho := by first | decide | (simp only [rowOf_size]; omega) | (simp; done)) (h := ?_); clear hm; intro w1 hm; (try simp only [rowOf_set, k1, k2, k3, Value.cells, Act.eval, k7, k8, k9, kA, Option.getD_some] at hm)) | (refine wlA (hz := by first | exact zeroOne) (hm := hm) (h := ?_); clear hm; intro b1 w1 hm; (try simp only [rowOf_set, k1, k2, k3, Value.cells, Act.eval, k7, k8, k9, kA, Option.getD_some] at hm)) | (refine wl_box (by rfl) rfl (by first | exact idV_cells _ | exact labV_cells _ _ | exact rectV_cells _ _ _ _ | rfl) hm ?_; clear hm; intro b1 w1 hm) | (go_at_call 19; refine (timed_c _).mono ?_; rintro e w1 ⟨rfl, hx⟩; replace hm := hm.call hx; clear hx) | (with_reducible first | refine stBs ?_ | refine stMs ?_ | refine stAp ?_ | refine stCo ?_)); (try simp only [k4, k5, k6, Act.put, k1, k2, k3]))
      go_meet
      exact ⟨false, ht, rfl, rfl⟩
    · rintro ⟨e2, e1⟩
      have g3 : decide (0 ≤ i) = true := decide_eq_true e2
      have g4 : decide (i < (n : Int)) = true := decide_eq_true e1
      have hj : i.toNat < n := by omega
      have ht := thereB_in z n i.toNat hj
      rw [Int.toNat_of_nonneg e2] at ht
      obtain ⟨aa, rfl, hcell⟩ := H.out i.toNat hj
      have hcell' := cell_old hm hcell
      have hcx := hid hcell'
      clear hcell hcell' hj
      obtain ⟨x, hx⟩ : ∃ x, z i.toNat = x := ⟨_, rfl⟩
      rw [hx] at hcx ht
      go_wp2_with (with_reducible first | refine stAl ?_ | refine stBo ?_ | refine stLo ?_ | refine stSo ?_ | refine stBu ?_ | refine stBs ?_ | refine stMs ?_ | refine stAp ?_ | refine stCo ?_)
      refine Stop.go (wl_loadOld (v := .int .i64 x) (by rfl) rfl (by first | exact hcx.out | simpa using hcx.out) undInt rfl ?_); simp only [Act.put, k1, k2, k3]
      clear hcx hx e1 e2
      go_wp2_with ((first | refine wpList_skip (by rfl) ?_ | (refine wlL (hm := hm) (hu := by first | exact undOne) (hi := by (try simp only [rowOf_size]); first | exact sizeOne) (h := ?_); (try simp only [Act.put, k1, k2, k3]); (try simp only [List.nil_append])) | refine wlLC (hm := hm) (hu := by first | exact undBool) (h := ?_) | (refine wlS (hm := hm) (hv := (by first | rfl | exact idV_eq _ | exact labV_eq _ _ | exact rectV_eq _ _ _ _)) (hi := by (try simp only [rowOf_size]); first | exact sizeOne) (hs := by first | (simp only [rowOf_size]; done) | rfl) (h := ?_); clear hm; intro w1 hm; (try simp only [rowOf_set, k1, k2, k3, Value.cells, Act.eval, k7, k8, k9, kA, Option.getD_some] at hm)) | (refine wlSC (hm := hm) (hi := by first | exact sizeBool) (ho := by first | decide | (simp only [rowOf_size]; omega) | (simp; done)) (h := ?_); clear hm; intro w1 hm; (try simp only [rowOf_set, k1, k2, k3, Value.cells, Act.eval, k7, k8, k9, kA, Option.getD_some] at hm)) | (refine wlA (hz := by first | exact zeroOne) (hm := hm) (h := ?_); clear hm; intro b1 w1 hm; (try simp only [rowOf_set, k1, k2, k3, Value.cells, Act.eval, k7, k8, k9, kA, Option.getD_some] at hm)) | (refine wl_box (by rfl) rfl (by first | exact idV_cells _ | exact labV_cells _ _ | exact rectV_cells _ _ _ _ | rfl) hm ?_; clear hm; intro b1 w1 hm) | (go_at_call 19; refine (timed_c _).mono ?_; rintro e w1 ⟨rfl, hx⟩; replace hm := hm.call hx; clear hx) | (with_reducible first | refine stBs ?_ | refine stMs ?_ | refine stAp ?_ | refine stCo ?_)); (try simp only [k4, k5, k6, Act.put, k1, k2, k3]))
      go_meet
      exact ⟨_, ht, rfl, rfl⟩
  case rest =>
    obtain ⟨th, hth, rfl, rfl⟩ := hcut
    rw [hth] at hC1
    have dth : (th != th) = false := by simp
    clear hth
    go_wp2_with ((first | refine wpList_skip (by rfl) ?_ | (refine wlL (hm := hm) (hu := by first | exact undOne) (hi := by (try simp only [rowOf_size]); first | exact sizeOne) (h := ?_); (try simp only [Act.put, k1, k2, k3]); (try simp only [List.nil_append])) | refine wlLC (hm := hm) (hu := by first | exact undBool) (h := ?_) | (refine wlS (hm := hm) (hv := (by first | rfl | exact idV_eq _ | exact labV_eq _ _ | exact rectV_eq _ _ _ _)) (hi := by (try simp only [rowOf_size]); first | exact sizeOne) (hs := by first | (simp only [rowOf_size]; done) | rfl) (h := ?_); clear hm; intro w1 hm; (try simp only [rowOf_set, k1, k2, k3, Value.cells, Act.eval, k7, k8, k9, kA, Option.getD_some] at hm)) | (refine wlSC (hm := hm) (hi := by first | exact sizeBool) (ho := by first | decide | (simp only [rowOf_size]; omega) | (simp; done)) (h := ?_); clear hm; intro w1 hm; (try simp only [rowOf_set, k1, k2, k3, Value.cells, Act.eval, k7, k8, k9, kA, Option.getD_some] at hm)) | (refine wlA (hz := by first | exact zeroOne) (hm := hm) (h := ?_); clear hm; intro b1 w1 hm; (try simp only [rowOf_set, k1, k2, k3, Value.cells, Act.eval, k7, k8, k9, kA, Option.getD_some] at hm)) | (refine wl_box (by rfl) rfl (by first | exact idV_cells _ | exact labV_cells _ _ | exact rectV_cells _ _ _ _ | rfl) hm ?_; clear hm; intro b1 w1 hm) | (go_at_call 19; refine (timed_c _).mono ?_; rintro e w1 ⟨rfl, hx⟩; replace hm := hm.call hx; clear hx) | (with_reducible first | refine stBs ?_ | refine stMs ?_ | refine stAp ?_ | refine stCo ?_)); (try simp only [k4, k5, k6, Act.put, k1, k2, k3]))
    refine (hC1.use (A := []) hT hm).mono ?_
    clear hm hT hC1
    rintro e w2 ⟨rfl, B1, hT, hm⟩
    go_wp2_with ((first | refine wpList_skip (by rfl) ?_ | (refine wlL (hm := hm) (hu := by first | exact undOne) (hi := by (try simp only [rowOf_size]); first | exact sizeOne) (h := ?_); (try simp only [Act.put, k1, k2, k3]); (try simp only [List.nil_append])) | refine wlLC (hm := hm) (hu := by first | exact undBool) (h := ?_) | (refine wlS (hm := hm) (hv := (by first | rfl | exact idV_eq _ | exact labV_eq _ _ | exact rectV_eq _ _ _ _)) (hi := by (try simp only [rowOf_size]); first | exact sizeOne) (hs := by first | (simp only [rowOf_size]; done) | rfl) (h := ?_); clear hm; intro w1 hm; (try simp only [rowOf_set, k1, k2, k3, Value.cells, Act.eval, k7, k8, k9, kA, Option.getD_some] at hm)) | (refine wlSC (hm := hm) (hi := by first | exact sizeBool) (ho := by first | decide | (simp only [rowOf_size]; omega) | (simp; done)) (h := ?_); clear hm; intro w1 hm; (try simp only [rowOf_set, k1, k2, k3, Value.cells, Act.eval, k7, k8, k9, kA, Option.getD_some] at hm)) | (refine wlA (hz := by first | exact zeroOne) (hm := hm) (h := ?_); clear hm; intro b1 w1 hm; (try simp only [rowOf_set, k1, k2, k3, Value.cells, Act.eval, k7, k8, k9, kA, Option.getD_some] at hm)) | (refine wl_box (by rfl) rfl (by first | exact idV_cells _ | exact labV_cells _ _ | exact rectV_cells _ _ _ _ | rfl) hm ?_; clear hm; intro b1 w1 hm) | (go_at_call 19; refine (timed_c _).mono ?_; rintro e w1 ⟨rfl, hx⟩; replace hm := hm.call hx; clear hx) | (with_reducible first | refine stBs ?_ | refine stMs ?_ | refine stAp ?_ | refine stCo ?_)); (try simp only [k4, k5, k6, Act.put, k1, k2, k3]))
    refine (hC2.use (A := []) hT hm).mono ?_
    clear hm hT hC2 dth
    rintro e w3 ⟨rfl, B2, hT, hm⟩
    go_wp2_with ((first | refine wpList_skip (by rfl) ?_ | (refine wlL (hm := hm) (hu := by first | exact undOne) (hi := by (try simp only [rowOf_size]); first | exact sizeOne) (h := ?_); (try simp only [Act.put, k1, k2, k3]); (try simp only [List.nil_append])) | refine wlLC (hm := hm) (hu := by first | exact undBool) (h := ?_) | (refine wlS (hm := hm) (hv := (by first | rfl | exact idV_eq _ | exact labV_eq _ _ | exact rectV_eq _ _ _ _)) (hi := by (try simp only [rowOf_size]); first | exact sizeOne) (hs := by first | (simp only [rowOf_size]; done) | rfl) (h := ?_); clear hm; intro w1 hm; (try simp only [rowOf_set, k1, k2, k3, Value.cells, Act.eval, k7, k8, k9, kA, Option.getD_some] at hm)) | (refine wlSC (hm := hm) (hi := by first | exact sizeBool) (ho := by first | decide | (simp only [rowOf_size]; omega) | (simp; done)) (h := ?_); clear hm; intro w1 hm; (try simp only [rowOf_set, k1, k2, k3, Value.cells, Act.eval, k7, k8, k9, kA, Option.getD_some] at hm)) | (refine wlA (hz := by first | exact zeroOne) (hm := hm) (h := ?_); clear hm; intro b1 w1 hm; (try simp only [rowOf_set, k1, k2, k3, Value.cells, Act.eval, k7, k8, k9, kA, Option.getD_some] at hm)) | (refine wl_box (by rfl) rfl (by first | exact idV_cells _ | exact labV_cells _ _ | exact rectV_cells _ _ _ _ | rfl) hm ?_; clear hm; intro b1 w1 hm) | (go_at_call 19; refine (timed_c _).mono ?_; rintro e w1 ⟨rfl, hx⟩; replace hm := hm.call hx; clear hx) | (with_reducible first | refine stBs ?_ | refine stMs ?_ | refine stAp ?_ | refine stCo ?_)); (try simp only [k4, k5, k6, Act.put, k1, k2, k3]))
    refine (tick_c tb 0 tt _ o l2 (by omega) hK _ _ hT hm.right.self).mono ?_
    rintro e w4 hx
    obtain ⟨sa, Sa, B3, rfl, hSa, hT3, hx⟩ := hx.out
    replace hm := hm.callBehind hx
    clear hx hT hK
    obtain ⟨c1, cap1, rfl, hv⟩ := hSa.view
    have HV : Hid (∀ (w' : World) (M : List (Nat × Obj)), Mem w [] (M ++ (Sa ++ B3)) w' → ∀ k, k < o.length → ∃ a, c1 = some a ∧ w'.cell? (a.add k) = some (.int .i64 ((jn k : Nat) : Int))) := Go.Proofs.Ythcpdjlomdchdaa.hid fun w' M hm' k hk => by
      have hq : Mem w [] (Sa ++ (M ++ B3)) w' := hm'.perm (perm_of fun x => by simp only [cnt_append]; omega)
      have := hv hq k hk
      rw [show (fun i => o.getD i 0) k = _ from ho k hk] at this
      exact this
    clear hv
    go_wp2_with ((first | refine wpList_skip (by rfl) ?_ | (refine wlL (hm := hm) (hu := by first | exact undOne) (hi := by (try simp only [rowOf_size]); first | exact sizeOne) (h := ?_); (try simp only [Act.put, k1, k2, k3]); (try simp only [List.nil_append])) | refine wlLC (hm := hm) (hu := by first | exact undBool) (h := ?_) | (refine wlS (hm := hm) (hv := (by first | rfl | exact idV_eq _ | exact labV_eq _ _ | exact rectV_eq _ _ _ _)) (hi := by (try simp only [rowOf_size]); first | exact sizeOne) (hs := by first | (simp only [rowOf_size]; done) | rfl) (h := ?_); clear hm; intro w1 hm; (try simp only [rowOf_set, k1, k2, k3, Value.cells, Act.eval, k7, k8, k9, kA, Option.getD_some] at hm)) | (refine wlSC (hm := hm) (hi := by first | exact sizeBool) (ho := by first | decide | (simp only [rowOf_size]; omega) | (simp; done)) (h := ?_); clear hm; intro w1 hm; (try simp only [rowOf_set, k1, k2, k3, Value.cells, Act.eval, k7, k8, k9, kA, Option.getD_some] at hm)) | (refine wlA (hz := by first | exact zeroOne) (hm := hm) (h := ?_); clear hm; intro b1 w1 hm; (try simp only [rowOf_set, k1, k2, k3, Value.cells, Act.eval, k7, k8, k9, kA, Option.getD_some] at hm)) | (refine wl_box (by rfl) rfl (by first | exact idV_cells _ | exact labV_cells _ _ | exact rectV_cells _ _ _ _ | rfl) hm ?_; clear hm; intro b1 w1 hm) | (go_at_call 19; refine (timed_c _).mono ?_; rintro e w1 ⟨rfl, hx⟩; replace hm := hm.call hx; clear hx) | (with_reducible first | refine stBs ?_ | refine stMs ?_ | refine stAp ?_ | refine stCo ?_)); (try simp only [k4, k5, k6, Act.put, k1, k2, k3]))
    refine Stop.go (wl_op (by rfl) fun K hK => ow_make (l := n) (c := n) hm elBool rfl rfl (Nat.le_refl _) (by omega) (by omega) ?_)
    clear hm; intro g w5 hm; refine hK _ _ ?_; clear hK K; simp only [Act.put, k1, k2, k3]
    simp only [Nat.mul_one, Value.cells, made_one] at hm
    have ht := TB.start n jn
    generalize (rowOf n fun _ => Value.bool false) = cur at hm ht
    go_wp2_with ((first | refine wpList_skip (by rfl) ?_ | (refine wlL (hm := hm) (hu := by first | exact undOne) (hi := by (try simp only [rowOf_size]); first | exact sizeOne) (h := ?_); (try simp only [Act.put, k1, k2, k3]); (try simp only [List.nil_append])) | refine wlLC (hm := hm) (hu := by first | exact undBool) (h := ?_) | (refine wlS (hm := hm) (hv := (by first | rfl | exact idV_eq _ | exact labV_eq _ _ | exact rectV_eq _ _ _ _)) (hi := by (try simp only [rowOf_size]); first | exact sizeOne) (hs := by first | (simp only [rowOf_size]; done) | rfl) (h := ?_); clear hm; intro w1 hm; (try simp only [rowOf_set, k1, k2, k3, Value.cells, Act.eval, k7, k8, k9, kA, Option.getD_some] at hm)) | (refine wlSC (hm := hm) (hi := by first | exact sizeBool) (ho := by first | decide | (simp only [rowOf_size]; omega) | (simp; done)) (h := ?_); clear hm; intro w1 hm; (try simp only [rowOf_set, k1, k2, k3, Value.cells, Act.eval, k7, k8, k9, kA, Option.getD_some] at hm)) | (refine wlA (hz := by first | exact zeroOne) (hm := hm) (h := ?_); clear hm; intro b1 w1 hm; (try simp only [rowOf_set, k1, k2, k3, Value.cells, Act.eval, k7, k8, k9, kA, Option.getD_some] at hm)) | (refine wl_box (by rfl) rfl (by first | exact idV_cells _ | exact labV_cells _ _ | exact rectV_cells _ _ _ _ | rfl) hm ?_; clear hm; intro b1 w1 hm) | (go_at_call 19; refine (timed_c _).mono ?_; rintro e w1 ⟨rfl, hx⟩; replace hm := hm.call hx; clear hx) | (with_reducible first | refine stBs ?_ | refine stMs ?_ | refine stAp ?_ | refine stCo ?_)); (try simp only [k4, k5, k6, Act.put, k1, k2, k3]))
    go_loopw [12] (fun vi wr => ∃ (k : Nat) (cur : Array Value), k ≤ o.length ∧ vi = .int .i64 (k : Int) ∧ TB cur n jn k ∧ Mem w [] ((g, .cells cur 4 (0, 0)) :: (Sa ++ B3)) wr) (fun vi _ => (o.length - intOf vi).toNat)
    case atStart => exact ⟨0, cur, by omega, rfl, ht, hm⟩
    case round =>
      clear hm ht
      obtain ⟨k, cur, hk, rfl, ht, hm⟩ := hrel
      by_cases hko : k < o.length
      · have e1 : (k : Int) < (o.length : Int) := by omega
        have e2 : (0 : Int) ≤ (k : Int) := by omega
        obtain ⟨al, rfl, hl⟩ := HV.out wr [(g, .cells cur 4 (0, 0))] hm k hko
        have hjn := hS.lt k hko
        obtain ⟨aa, hca, hz⟩ := (H.out.old hm) (jn k) hjn
        cases hca
        have t1 := hS.low k hko
        have t2 := hS.high k hko
        have t3 := hS.ne k hko
        have t4 : toldB jn k (jn k) = false := toldB_no fun k' h => hS.once k k' h hko
        have t5 := ht.2 (jn k) hjn
        rw [t4] at t5
        have hlx := Go.Proofs.Ythcpdjlomdchdaa.hid hl
        have hzx := Go.Proofs.Ythcpdjlomdchdaa.hid hz
        obtain ⟨y, hy⟩ : ∃ y, z (jn k) = y := ⟨_, rfl⟩
        rw [hy] at t1 t2 hzx
        have d1 : decide (((jn k : Nat) : Int) < 0) = false := by rw [decide_eq_false_iff_not]; omega
        have d2 : decide ((n : Int) ≤ ((jn k : Nat) : Int)) = false := by rw [decide_eq_false_iff_not]; omega
        have d2' : decide (n ≤ jn k) = false := by rw [decide_eq_false_iff_not]; omega
        have d3 : (((jn k : Nat) : Int) == i) = false := by rw [beq_eq_false_iff_ne]; exact t3
        have d4 : decide (tt < y) = false := by rw [decide_eq_false_iff_not]; omega
        have d5 : decide (y < 0) = false := by rw [decide_eq_false_iff_not]; omega
        have e3 : ((jn k : Nat) : Int) < (n : Int) := by omega
        have e4 : (0 : Int) ≤ ((jn k : Nat) : Int) := by omega
        have g9 : IntKind.i64.wrap ((k : Int) + 1) = (k : Int) + 1 := wrap_i64 (by omega) (by omega)
        clear hl hz t1 t2 t3
        go_wp2_with (with_reducible first | refine stAl ?_ | refine stBo ?_ | refine stLo ?_ | refine stSo ?_ | refine stBu ?_ | refine stBs ?_ | refine stMs ?_ | refine stAp ?_ | refine stCo ?_)
        refine Stop.go (wl_loadOld (v := .int .i64 ((jn k : Nat) : Int)) (by rfl) rfl (by first | exact hlx.out | simpa using hlx.out) undInt rfl ?_); simp only [Act.put, k1, k2, k3]
        go_wp2_with (with_reducible first | refine stAl ?_ | refine stBo ?_ | refine stLo ?_ | refine stSo ?_ | refine stBu ?_ | refine stBs ?_ | refine stMs ?_ | refine stAp ?_ | refine stCo ?_)
        refine Stop.go (wl_loadOld (v := .int .i64 ((jn k : Nat) : Int)) (by rfl) rfl (by first | exact hlx.out | simpa using hlx.out) undInt rfl ?_); simp only [Act.put, k1, k2, k3]
        go_wp2_with (with_reducible first | refine stAl ?_ | refine stBo ?_ | refine stLo ?_ | refine stSo ?_ | refine stBu ?_ | refine stBs ?_ | refine stMs ?_ | refine stAp ?_ | refine stCo ?_)
        refine Stop.go (wl_loadOld (v := .int .i64 ((jn k : Nat) : Int)) (by rfl) rfl (by first | exact hlx.out | simpa using hlx.out) undInt rfl ?_); simp only [Act.put, k1, k2, k3]
        go_wp2_with (with_reducible first | refine stAl ?_ | refine stBo ?_ | refine stLo ?_ | refine stSo ?_ | refine stBu ?_ | refine stBs ?_ | refine stMs ?_ | refine stAp ?_ | refine stCo ?_)
        refine Stop.go (wl_loadOld (v := .int .i64 ((jn k : Nat) : Int)) (by rfl) rfl (by first | exact hlx.out | simpa using hlx.out) undInt rfl ?_); simp only [Act.put, k1, k2, k3]
        go_wp2_with (with_reducible first | refine stAl ?_ | refine stBo ?_ | refine stLo ?_ | refine stSo ?_ | refine stBu ?_ | refine stBs ?_ | refine stMs ?_ | refine stAp ?_ | refine stCo ?_); refine Stop.go (wl_loadCell (i := 0) (by rfl) hm rfl rfl (t5) undBool rfl ?_); simp only [Act.put, k1, k2, k3]
        go_wp2_with (with_reducible first | refine stAl ?_ | refine stBo ?_ | refine stLo ?_ | refine stSo ?_ | refine stBu ?_ | refine stBs ?_ | refine stMs ?_ | refine stAp ?_ | refine stCo ?_)
        refine Stop.go (wl_loadOld (v := .int .i64 ((jn k : Nat) : Int)) (by rfl) rfl (by first | exact hlx.out | simpa using hlx.out) undInt rfl ?_); simp only [Act.put, k1, k2, k3]
        go_wp2_with (with_reducible first | refine stAl ?_ | refine stBo ?_ | refine stLo ?_ | refine stSo ?_ | refine stBu ?_ | refine stBs ?_ | refine stMs ?_ | refine stAp ?_ | refine stCo ?_)
        refine Stop.go (wl_loadOld (v := .int .i64 y) (by rfl) rfl (by first | exact hzx.out | simpa using hzx.out) undInt rfl ?_); simp only [Act.put, k1, k2, k3]
        go_wp2_with (with_reducible first | refine stAl ?_ | refine stBo ?_ | refine stLo ?_ | refine stSo ?_ | refine stBu ?_ | refine stBs ?_ | refine stMs ?_ | refine stAp ?_ | refine stCo ?_)
        refine Stop.go (wl_loadOld (v := .int .i64 ((jn k : Nat) : Int)) (by rfl) rfl (by first | exact hlx.out | simpa using hlx.out) undInt rfl ?_); simp only [Act.put, k1, k2, k3]
        go_wp2_with (with_reducible first | refine stAl ?_ | refine stBo ?_ | refine stLo ?_ | refine stSo ?_ | refine stBu ?_ | refine stBs ?_ | refine stMs ?_ | refine stAp ?_ | refine stCo ?_)
        refine Stop.go (wl_loadOld (v := .int .i64 y) (by rfl) rfl (by first | exact hzx.out | simpa using hzx.out) undInt rfl ?_); simp only [Act.put, k1, k2, k3]
        go_wp2_with (with_reducible first | refine stAl ?_ | refine stBo ?_ | refine stLo ?_ | refine stSo ?_ | refine stBu ?_ | refine stBs ?_ | refine stMs ?_ | refine stAp ?_ | refine stCo ?_)
        refine Stop.go (wl_loadOld (v := .int .i64 ((jn k : Nat) : Int)) (by rfl) rfl (by first | exact hlx.out | simpa using hlx.out) undInt rfl ?_); simp only [Act.put, k1, k2, k3]
        go_wp2_with (with_reducible first | refine stAl ?_ | refine stBo ?_ | refine stLo ?_ | refine stSo ?_ | refine stBu ?_ | refine stBs ?_ | refine stMs ?_ | refine stAp ?_ | refine stCo ?_)
        refine Stop.go (wl_storeCell (i := 0) (by rfl) hm rfl rfl rfl rfl sizeBool (by rw [ht.1]; exact hjn) ?_); clear hm; intro w8 hm; simp only [Act.put, k1, k2, k3]; (try simp only [rowOf_set, k1, k2, k3, Value.cells, Act.eval, k7, k8, k9, kA, Option.getD_some] at hm)
        replace ht := ht.step hjn
        generalize cur.setIfInBounds (jn k) (.bool true) = cur at hm ht
        have HL := Go.Proofs.Ythcpdjlomdchdaa.hid (show ∀ w', Mem w [] ((g, .cells cur 4 (0, 0)) :: (Sa ++ B3)) w' → ∀ j, j < o.length → w'.cell? (al.add j) = some (.int .i64 ((jn j : Nat) : Int)) from fun w' hC j hj => by
          obtain ⟨a', ha', h'⟩ := HV.out w' [(g, _)] hC j hj
          cases ha'
          exact h')
        have HZ := Go.Proofs.Ythcpdjlomdchdaa.hid (show ∀ w', Mem w [] ((g, .cells cur 4 (0, 0)) :: (Sa ++ B3)) w' → ∀ j, j < n → w'.cell? (aa.add j) = some (.int .i64 (z j)) from fun w' hC j hj => by
          obtain ⟨a', ha', h'⟩ := H.out.old hC j hj
          cases ha'
          exact h')
        clear hlx hzx t4 t5 d1 d2 d2' d3 d4 d5
        by_cases hk0 : k = 0
        · have d6 : decide ((0 : Int) < (k : Int)) = false := by rw [decide_eq_false_iff_not]; omega
          have d7 : decide (0 < k) = false := by rw [decide_eq_false_iff_not]; omega
          go_wp2_with fail
          go_quiet (fail)
          replace hm := hm.drewN nq
          go_wp2_with ((first | refine wpList_skip (by rfl) ?_ | (refine wlL (hm := hm) (hu := by first | exact undOne) (hi := by (try simp only [rowOf_size]); first | exact sizeOne) (h := ?_); (try simp only [Act.put, k1, k2, k3]); (try simp only [List.nil_append])) | refine wlLC (hm := hm) (hu := by first | exact undBool) (h := ?_) | (refine wlS (hm := hm) (hv := (by first | rfl | exact idV_eq _ | exact labV_eq _ _ | exact rectV_eq _ _ _ _)) (hi := by (try simp only [rowOf_size]); first | exact sizeOne) (hs := by first | (simp only [rowOf_size]; done) | rfl) (h := ?_); clear hm; intro w1 hm; (try simp only [rowOf_set, k1, k2, k3, Value.cells, Act.eval, k7, k8, k9, kA, Option.getD_some] at hm)) | (refine wlSC (hm := hm) (hi := by first | exact sizeBool) (ho := by first | decide | (simp only [rowOf_size]; omega) | (simp; done)) (h := ?_); clear hm; intro w1 hm; (try simp only [rowOf_set, k1, k2, k3, Value.cells, Act.eval, k7, k8, k9, kA, Option.getD_some] at hm)) | (refine wlA (hz := by first | exact zeroOne) (hm := hm) (h := ?_); clear hm; intro b1 w1 hm; (try simp only [rowOf_set, k1, k2, k3, Value.cells, Act.eval, k7, k8, k9, kA, Option.getD_some] at hm)) | (refine wl_box (by rfl) rfl (by first | exact idV_cells _ | exact labV_cells _ _ | exact rectV_cells _ _ _ _ | rfl) hm ?_; clear hm; intro b1 w1 hm) | (go_at_call 19; refine (timed_c _).mono ?_; rintro e w1 ⟨rfl, hx⟩; replace hm := hm.call hx; clear hx) | (with_reducible first | refine stBs ?_ | refine stMs ?_ | refine stAp ?_ | refine stCo ?_)); (try simp only [k4, k5, k6, Act.put, k1, k2, k3]))
          go_roundw
          case rel => exact ⟨k + 1, cur, by omega, by go_num, ht, hm⟩
          case measure => (simp [intOf]; try omega)
        · obtain ⟨p, hp⟩ : ∃ p, k = p + 1 := ⟨k - 1, by omega⟩
          have d6 : decide ((0 : Int) < (k : Int)) = true := by rw [decide_eq_true_eq]; omega
          have d7 : decide (0 < k) = true := by rw [decide_eq_true_eq]; omega
          have g10 : IntKind.i64.wrap ((k : Int) - 1) = (p : Int) := by rw [wrap_i64 (by omega) (by omega)]; omega
          have e5 : (p : Int) < (o.length : Int) := by omega
          have e6 : (0 : Int) ≤ (p : Int) := by omega
          have hpo : p < o.length := by omega
          have hjp := hS.lt p hpo
          have e7 : ((jn p : Nat) : Int) < (n : Int) := by omega
          have e8 : (0 : Int) ≤ ((jn p : Nat) : Int) := by omega
          have hup := hS.rise p (by omega)
          rw [← hp, hy] at hup
          obtain ⟨yp, hyp⟩ : ∃ y, z (jn p) = y := ⟨_, rfl⟩
          rw [hyp] at hup
          have L1 := Go.Proofs.Ythcpdjlomdchdaa.hid (fun w' hC => HL.out w' hC p hpo)
          have L2 := Go.Proofs.Ythcpdjlomdchdaa.hid (fun w' hC => HL.out w' hC k hko)
          have Z1 := Go.Proofs.Ythcpdjlomdchdaa.hid (fun w' hC => HZ.out w' hC (jn p) hjp)
          have Z2 := Go.Proofs.Ythcpdjlomdchdaa.hid (fun w' hC => HZ.out w' hC (jn k) hjn)
          rw [hyp] at Z1
          rw [hy] at Z2
          clear HL HZ hp hy hyp
          have d8 : decide (y < yp) = false := by rw [decide_eq_false_iff_not]; omega
          by_cases hlt : yp < y
          · have d9 : (yp == y) = false := by rw [beq_eq_false_iff_ne]; omega
            have r1 := L1.out _ hm
            have r2 := L2.out _ hm
            have r3 := Z1.out _ hm
            have r4 := Z2.out _ hm
            clear hup hlt
            go_wp2_with fail
            go_quiet (fail)
            replace hm := hm.drewN nq
            clear r1 r2 r3 r4
            go_wp2_with ((first | refine wpList_skip (by rfl) ?_ | (refine wlL (hm := hm) (hu := by first | exact undOne) (hi := by (try simp only [rowOf_size]); first | exact sizeOne) (h := ?_); (try simp only [Act.put, k1, k2, k3]); (try simp only [List.nil_append])) | refine wlLC (hm := hm) (hu := by first | exact undBool) (h := ?_) | (refine wlS (hm := hm) (hv := (by first | rfl | exact idV_eq _ | exact labV_eq _ _ | exact rectV_eq _ _ _ _)) (hi := by (try simp only [rowOf_size]); first | exact sizeOne) (hs := by first | (simp only [rowOf_size]; done) | rfl) (h := ?_); clear hm; intro w1 hm; (try simp only [rowOf_set, k1, k2, k3, Value.cells, Act.eval, k7, k8, k9, kA, Option.getD_some] at hm)) | (refine wlSC (hm := hm) (hi := by first | exact sizeBool) (ho := by first | decide | (simp only [rowOf_size]; omega) | (simp; done)) (h := ?_); clear hm; intro w1 hm; (try simp only [rowOf_set, k1, k2, k3, Value.cells, Act.eval, k7, k8, k9, kA, Option.getD_some] at hm)) | (refine wlA (hz := by first | exact zeroOne) (hm := hm) (h := ?_); clear hm; intro b1 w1 hm; (try simp only [rowOf_set, k1, k2, k3, Value.cells, Act.eval, k7, k8, k9, kA, Option.getD_some] at hm)) | (refine wl_box (by rfl) rfl (by first | exact idV_cells _ | exact labV_cells _ _ | exact rectV_cells _ _ _ _ | rfl) hm ?_; clear hm; intro b1 w1 hm) | (go_at_call 19; refine (timed_c _).mono ?_; rintro e w1 ⟨rfl, hx⟩; replace hm := hm.call hx; clear hx) | (with_reducible first | refine stBs ?_ | refine stMs ?_ | refine stAp ?_ | refine stCo ?_)); (try simp only [k4, k5, k6, Act.put, k1, k2, k3]))
            go_roundw
            case rel => exact ⟨k + 1, cur, by omega, by go_num, ht, hm⟩
            case measure => (simp [intOf]; try omega)
          · obtain rfl : yp = y := by omega
            have d9 : (yp == yp) = true := by simp
            have d10 : decide (((jn k : Nat) : Int) < ((jn p : Nat) : Int)) = false := by rw [decide_eq_false_iff_not]; omega
            have d11 : decide (jn k < jn p) = false := by rw [decide_eq_false_iff_not]; omega
            have r1 := L1.out _ hm
            have r2 := L2.out _ hm
            have r3 := Z1.out _ hm
            have r4 := Z2.out _ hm
            clear hup hlt
            go_wp2_with fail
            go_quiet (fail)
            replace hm := hm.drewN nq
            clear r1 r2 r3 r4
            go_wp2_with ((first | refine wpList_skip (by rfl) ?_ | (refine wlL (hm := hm) (hu := by first | exact undOne) (hi := by (try simp only [rowOf_size]); first | exact sizeOne) (h := ?_); (try simp only [Act.put, k1, k2, k3]); (try simp only [List.nil_append])) | refine wlLC (hm := hm) (hu := by first | exact undBool) (h := ?_) | (refine wlS (hm := hm) (hv := (by first | rfl | exact idV_eq _ | exact labV_eq _ _ | exact rectV_eq _ _ _ _)) (hi := by (try simp only [rowOf_size]); first | exact sizeOne) (hs := by first | (simp only [rowOf_size]; done) | rfl) (h := ?_); clear hm; intro w1 hm; (try simp only [rowOf_set, k1, k2, k3, Value.cells, Act.eval, k7, k8, k9, kA, Option.getD_some] at hm)) | (refine wlSC (hm := hm) (hi := by first | exact sizeBool) (ho := by first | decide | (simp only [rowOf_size]; omega) | (simp; done)) (h := ?_); clear hm; intro w1 hm; (try simp only [rowOf_set, k1, k2, k3, Value.cells, Act.eval, k7, k8, k9, kA, Option.getD_some] at hm)) | (refine wlA (hz := by first | exact zeroOne) (hm := hm) (h := ?_); clear hm; intro b1 w1 hm; (try simp only [rowOf_set, k1, k2, k3, Value.cells, Act.eval, k7, k8, k9, kA, Option.getD_some] at hm)) | (refine wl_box (by rfl) rfl (by first | exact idV_cells _ | exact labV_cells _ _ | exact rectV_cells _ _ _ _ | rfl) hm ?_; clear hm; intro b1 w1 hm) | (go_at_call 19; refine (timed_c _).mono ?_; rintro e w1 ⟨rfl, hx⟩; replace hm := hm.call hx; clear hx) | (with_reducible first | refine stBs ?_ | refine stMs ?_ | refine stAp ?_ | refine stCo ?_)); (try simp only [k4, k5, k6, Act.put, k1, k2, k3]))
            go_roundw
            case rel => exact ⟨k + 1, cur, by omega, by go_num, ht, hm⟩
            case measure => (simp [intOf]; try omega)
      · obtain rfl : k = o.length := by omega
        have e1 : ¬ (o.length : Int) < (o.length : Int) := by omega
        go_wp2_with ((first | refine wpList_skip (by rfl) ?_ | (refine wlL (hm := hm) (hu := by first | exact undOne) (hi := by (try simp only [rowOf_size]); first | exact sizeOne) (h := ?_); (try simp only [Act.put, k1, k2, k3]); (try simp only [List.nil_append])) | refine wlLC (hm := hm) (hu := by first | exact undBool) (h := ?_) | (refine wlS (hm := hm) (hv := (by first | rfl | exact idV_eq _ | exact labV_eq _ _ | exact rectV_eq _ _ _ _)) (hi := by (try simp only [rowOf_size]); first | exact sizeOne) (hs := by first | (simp only [rowOf_size]; done) | rfl) (h := ?_); clear hm; intro w1 hm; (try simp only [rowOf_set, k1, k2, k3, Value.cells, Act.eval, k7, k8, k9, kA, Option.getD_some] at hm)) | (refine wlSC (hm := hm) (hi := by first | exact sizeBool) (ho := by first | decide | (simp only [rowOf_size]; omega) | (simp; done)) (h := ?_); clear hm; intro w1 hm; (try simp only [rowOf_set, k1, k2, k3, Value.cells, Act.eval, k7, k8, k9, kA, Option.getD_some] at hm)) | (refine wlA (hz := by first | exact zeroOne) (hm := hm) (h := ?_); clear hm; intro b1 w1 hm; (try simp only [rowOf_set, k1, k2, k3, Value.cells, Act.eval, k7, k8, k9, kA, Option.getD_some] at hm)) | (refine wl_box (by rfl) rfl (by first | exact idV_cells _ | exact labV_cells _ _ | exact rectV_cells _ _ _ _ | rfl) hm ?_; clear hm; intro b1 w1 hm) | (go_at_call 19; refine (timed_c _).mono ?_; rintro e w1 ⟨rfl, hx⟩; replace hm := hm.call hx; clear hx) | (with_reducible first | refine stBs ?_ | refine stMs ?_ | refine stAp ?_ | refine stCo ?_)); (try simp only [k4, k5, k6, Act.put, k1, k2, k3]))
        go_loopw [13] (fun vi wr => ∃ (j : Nat), j ≤ n ∧ vi = .int .i64 (j : Int) ∧ Mem w [] ((g, .cells cur 4 (0, 0)) :: (Sa ++ B3)) wr) (fun vi _ => (n - intOf vi).toNat)
        case atStart => exact ⟨0, by omega, rfl, hm⟩
        case round =>
          clear hm
          obtain ⟨j, hj, rfl, hm⟩ := hrel
          by_cases hjn : j < n
          · have e1 : (j : Int) < (n : Int) := by omega
            have e2 : (0 : Int) ≤ (j : Int) := by omega
            have g9 : IntKind.i64.wrap ((j : Int) + 1) = (j : Int) + 1 := wrap_i64 (by omega) (by omega)
            obtain ⟨aa, hca, hz⟩ := (H.out.old hm) j hjn
            cases hca
            have hall := hS.all j hjn
            have t5 := ht.2 j hjn
            obtain ⟨y, hy⟩ : ∃ y, z j = y := ⟨_, rfl⟩
            rw [hy] at hz hall
            have hzx := Go.Proofs.Ythcpdjlomdchdaa.hid hz
            clear hz
            by_cases c0 : (j : Int) = i
            · have d0 : ((j : Int) != i) = false := by rw [c0]; simp
              clear c0 hall t5
              go_wp2_with ((first | refine wpList_skip (by rfl) ?_ | (refine wlL (hm := hm) (hu := by first | exact undOne) (hi := by (try simp only [rowOf_size]); first | exact sizeOne) (h := ?_); (try simp only [Act.put, k1, k2, k3]); (try simp only [List.nil_append])) | refine wlLC (hm := hm) (hu := by first | exact undBool) (h := ?_) | (refine wlS (hm := hm) (hv := (by first | rfl | exact idV_eq _ | exact labV_eq _ _ | exact rectV_eq _ _ _ _)) (hi := by (try simp only [rowOf_size]); first | exact sizeOne) (hs := by first | (simp only [rowOf_size]; done) | rfl) (h := ?_); clear hm; intro w1 hm; (try simp only [rowOf_set, k1, k2, k3, Value.cells, Act.eval, k7, k8, k9, kA, Option.getD_some] at hm)) | (refine wlSC (hm := hm) (hi := by first | exact sizeBool) (ho := by first | decide | (simp only [rowOf_size]; omega) | (simp; done)) (h := ?_); clear hm; intro w1 hm; (try simp only [rowOf_set, k1, k2, k3, Value.cells, Act.eval, k7, k8, k9, kA, Option.getD_some] at hm)) | (refine wlA (hz := by first | exact zeroOne) (hm := hm) (h := ?_); clear hm; intro b1 w1 hm; (try simp only [rowOf_set, k1, k2, k3, Value.cells, Act.eval, k7, k8, k9, kA, Option.getD_some] at hm)) | (refine wl_box (by rfl) rfl (by first | exact idV_cells _ | exact labV_cells _ _ | exact rectV_cells _ _ _ _ | rfl) hm ?_; clear hm; intro b1 w1 hm) | (go_at_call 19; refine (timed_c _).mono ?_; rintro e w1 ⟨rfl, hx⟩; replace hm := hm.call hx; clear hx) | (with_reducible first | refine stBs ?_ | refine stMs ?_ | refine stAp ?_ | refine stCo ?_)); (try simp only [k4, k5, k6, Act.put, k1, k2, k3]))
              go_roundw
              case rel => exact ⟨j + 1, by omega, by go_num, hm⟩
              case measure => (simp [intOf]; try omega)
            · have d0 : ((j : Int) != i) = true := by rw [bne_iff_ne]; exact c0
              by_cases c1 : 0 ≤ y
              · have d1 : decide (0 ≤ y) = true := decide_eq_true c1
                by_cases c2 : y ≤ tt
                · have d2 : decide (y ≤ tt) = true := decide_eq_true c2
                  rw [toldB_iff.2 (hall c0 c1 c2)] at t5
                  clear hall c0 c1 c2
                  go_wp2_with (with_reducible first | refine stAl ?_ | refine stBo ?_ | refine stLo ?_ | refine stSo ?_ | refine stBu ?_ | refine stBs ?_ | refine stMs ?_ | refine stAp ?_ | refine stCo ?_)
                  refine Stop.go (wl_loadOld (v := .int .i64 y) (by rfl) rfl (by first | exact hzx.out | simpa using hzx.out) undInt rfl ?_); simp only [Act.put, k1, k2, k3]
                  go_wp2_with (with_reducible first | refine stAl ?_ | refine stBo ?_ | refine stLo ?_ | refine stSo ?_ | refine stBu ?_ | refine stBs ?_ | refine stMs ?_ | refine stAp ?_ | refine stCo ?_)
                  refine Stop.go (wl_loadOld (v := .int .i64 y) (by rfl) rfl (by first | exact hzx.out | simpa using hzx.out) undInt rfl ?_); simp only [Act.put, k1, k2, k3]
                  go_wp2_with (with_reducible first | refine stAl ?_ | refine stBo ?_ | refine stLo ?_ | refine stSo ?_ | refine stBu ?_ | refine stBs ?_ | refine stMs ?_ | refine stAp ?_ | refine stCo ?_); refine Stop.go (wl_loadCell (i := 0) (by rfl) hm rfl rfl (t5) undBool rfl ?_); simp only [Act.put, k1, k2, k3]
                  go_wp2_with ((first | refine wpList_skip (by rfl) ?_ | (refine wlL (hm := hm) (hu := by first | exact undOne) (hi := by (try simp only [rowOf_size]); first | exact sizeOne) (h := ?_); (try simp only [Act.put, k1, k2, k3]); (try simp only [List.nil_append])) | refine wlLC (hm := hm) (hu := by first | exact undBool) (h := ?_) | (refine wlS (hm := hm) (hv := (by first | rfl | exact idV_eq _ | exact labV_eq _ _ | exact rectV_eq _ _ _ _)) (hi := by (try simp only [rowOf_size]); first | exact sizeOne) (hs := by first | (simp only [rowOf_size]; done) | rfl) (h := ?_); clear hm; intro w1 hm; (try simp only [rowOf_set, k1, k2, k3, Value.cells, Act.eval, k7, k8, k9, kA, Option.getD_some] at hm)) | (refine wlSC (hm := hm) (hi := by first | exact sizeBool) (ho := by first | decide | (simp only [rowOf_size]; omega) | (simp; done)) (h := ?_); clear hm; intro w1 hm; (try simp only [rowOf_set, k1, k2, k3, Value.cells, Act.eval, k7, k8, k9, kA, Option.getD_some] at hm)) | (refine wlA (hz := by first | exact zeroOne) (hm := hm) (h := ?_); clear hm; intro b1 w1 hm; (try simp only [rowOf_set, k1, k2, k3, Value.cells, Act.eval, k7, k8, k9, kA, Option.getD_some] at hm)) | (refine wl_box (by rfl) rfl (by first | exact idV_cells _ | exact labV_cells _ _ | exact rectV_cells _ _ _ _ | rfl) hm ?_; clear hm; intro b1 w1 hm) | (go_at_call 19; refine (timed_c _).mono ?_; rintro e w1 ⟨rfl, hx⟩; replace hm := hm.call hx; clear hx) | (with_reducible first | refine stBs ?_ | refine stMs ?_ | refine stAp ?_ | refine stCo ?_)); (try simp only [k4, k5, k6, Act.put, k1, k2, k3]))
                  go_roundw
                  case rel => exact ⟨j + 1, by omega, by go_num, hm⟩
                  case measure => (simp [intOf]; try omega)
                · have d2 : decide (y ≤ tt) = false := decide_eq_false c2
                  clear hall c0 c1 c2 t5
                  go_wp2_with (with_reducible first | refine stAl ?_ | refine stBo ?_ | refine stLo ?_ | refine stSo ?_ | refine stBu ?_ | refine stBs ?_ | refine stMs ?_ | refine stAp ?_ | refine stCo ?_)
                  refine Stop.go (wl_loadOld (v := .int .i64 y) (by rfl) rfl (by first | exact hzx.out | simpa using hzx.out) undInt rfl ?_); simp only [Act.put, k1, k2, k3]
                  go_wp2_with (with_reducible first | refine stAl ?_ | refine stBo ?_ | refine stLo ?_ | refine stSo ?_ | refine stBu ?_ | refine stBs ?_ | refine stMs ?_ | refine stAp ?_ | refine stCo ?_)
                  refine Stop.go (wl_loadOld (v := .int .i64 y) (by rfl) rfl (by first | exact hzx.out | simpa using hzx.out) undInt rfl ?_); simp only [Act.put, k1, k2, k3]
                  go_wp2_with ((first | refine wpList_skip (by rfl) ?_ | (refine wlL (hm := hm) (hu := by first | exact undOne) (hi := by (try simp only [rowOf_size]); first | exact sizeOne) (h := ?_); (try simp only [Act.put, k1, k2, k3]); (try simp only [List.nil_append])) | refine wlLC (hm := hm) (hu := by first | exact undBool) (h := ?_) | (refine wlS (hm := hm) (hv := (by first | rfl | exact idV_eq _ | exact labV_eq _ _ | exact rectV_eq _ _ _ _)) (hi := by (try simp only [rowOf_size]); first | exact sizeOne) (hs := by first | (simp only [rowOf_size]; done) | rfl) (h := ?_); clear hm; intro w1 hm; (try simp only [rowOf_set, k1, k2, k3, Value.cells, Act.eval, k7, k8, k9, kA, Option.getD_some] at hm)) | (refine wlSC (hm := hm) (hi := by first | exact sizeBool) (ho := by first | decide | (simp only [rowOf_size]; omega) | (simp; done)) (h := ?_); clear hm; intro w1 hm; (try simp only [rowOf_set, k1, k2, k3, Value.cells, Act.eval, k7, k8, k9, kA, Option.getD_some] at hm)) | (refine wlA (hz := by first | exact zeroOne) (hm := hm) (h := ?_); clear hm; intro b1 w1 hm; (try simp only [rowOf_set, k1, k2, k3, Value.cells, Act.eval, k7, k8, k9, kA, Option.getD_some] at hm)) | (refine wl_box (by rfl) rfl (by first | exact idV_cells _ | exact labV_cells _ _ | exact rectV_cells _ _ _ _ | rfl) hm ?_; clear hm; intro b1 w1 hm) | (go_at_call 19; refine (timed_c _).mono ?_; rintro e w1 ⟨rfl, hx⟩; replace hm := hm.call hx; clear hx) | (with_reducible first | refine stBs ?_ | refine stMs ?_ | refine stAp ?_ | refine stCo ?_)); (try simp only [k4, k5, k6, Act.put, k1, k2, k3]))
                  go_roundw
                  case rel => exact ⟨j + 1, by omega, by go_num, hm⟩
                  case measure => (simp [intOf]; try omega)
              · have d1 : decide (0 ≤ y) = false := decide_eq_false c1
                clear hall c0 c1 t5
                go_wp2_with (with_reducible first | refine stAl ?_ | refine stBo ?_ | refine stLo ?_ | refine stSo ?_ | refine stBu ?_ | refine stBs ?_ | refine stMs ?_ | refine stAp ?_ | refine stCo ?_)
                refine Stop.go (wl_loadOld (v := .int .i64 y) (by rfl) rfl (by first | exact hzx.out | simpa using hzx.out) undInt rfl ?_); simp only [Act.put, k1, k2, k3]
                go_wp2_with ((first | refine wpList_skip (by rfl) ?_ | (refine wlL (hm := hm) (hu := by first | exact undOne) (hi := by (try simp only [rowOf_size]); first | exact sizeOne) (h := ?_); (try simp only [Act.put, k1, k2, k3]); (try simp only [List.nil_append])) | refine wlLC (hm := hm) (hu := by first | exact undBool) (h := ?_) | (refine wlS (hm := hm) (hv := (by first | rfl | exact idV_eq _ | exact labV_eq _ _ | exact rectV_eq _ _ _ _)) (hi := by (try simp only [rowOf_size]); first | exact sizeOne) (hs := by first | (simp only [rowOf_size]; done) | rfl) (h := ?_); clear hm; intro w1 hm; (try simp only [rowOf_set, k1, k2, k3, Value.cells, Act.eval, k7, k8, k9, kA, Option.getD_some] at hm)) | (refine wlSC (hm := hm) (hi := by first | exact sizeBool) (ho := by first | decide | (simp only [rowOf_size]; omega) | (simp; done)) (h := ?_); clear hm; intro w1 hm; (try simp only [rowOf_set, k1, k2, k3, Value.cells, Act.eval, k7, k8, k9, kA, Option.getD_some] at hm)) | (refine wlA (hz := by first | exact zeroOne) (hm := hm) (h := ?_); clear hm; intro b1 w1 hm; (try simp only [rowOf_set, k1, k2, k3, Value.cells, Act.eval, k7, k8, k9, kA, Option.getD_some] at hm)) | (refine wl_box (by rfl) rfl (by first | exact idV_cells _ | exact labV_cells _ _ | exact rectV_cells _ _ _ _ | rfl) hm ?_; clear hm; intro b1 w1 hm) | (go_at_call 19; refine (timed_c _).mono ?_; rintro e w1 ⟨rfl, hx⟩; replace hm := hm.call hx; clear hx) | (with_reducible first | refine stBs ?_ | refine stMs ?_ | refine stAp ?_ | refine stCo ?_)); (try simp only [k4, k5, k6, Act.put, k1, k2, k3]))
                go_roundw
                case rel => exact ⟨j + 1, by omega, by go_num, hm⟩
                case measure => (simp [intOf]; try omega)
          · obtain rfl : j = n := by omega
            have e1 : ¬ (j : Int) < (j : Int) := by omega
            go_wp2_with ((first | refine wpList_skip (by rfl) ?_ | (refine wlL (hm := hm) (hu := by first | exact undOne) (hi := by (try simp only [rowOf_size]); first | exact sizeOne) (h := ?_); (try simp only [Act.put, k1, k2, k3]); (try simp only [List.nil_append])) | refine wlLC (hm := hm) (hu := by first | exact undBool) (h := ?_) | (refine wlS (hm := hm) (hv := (by first | rfl | exact idV_eq _ | exact labV_eq _ _ | exact rectV_eq _ _ _ _)) (hi := by (try simp only [rowOf_size]); first | exact sizeOne) (hs := by first | (simp only [rowOf_size]; done) | rfl) (h := ?_); clear hm; intro w1 hm; (try simp only [rowOf_set, k1, k2, k3, Value.cells, Act.eval, k7, k8, k9, kA, Option.getD_some] at hm)) | (refine wlSC (hm := hm) (hi := by first | exact sizeBool) (ho := by first | decide | (simp only [rowOf_size]; omega) | (simp; done)) (h := ?_); clear hm; intro w1 hm; (try simp only [rowOf_set, k1, k2, k3, Value.cells, Act.eval, k7, k8, k9, kA, Option.getD_some] at hm)) | (refine wlA (hz := by first | exact zeroOne) (hm := hm) (h := ?_); clear hm; intro b1 w1 hm; (try simp only [rowOf_set, k1, k2, k3, Value.cells, Act.eval, k7, k8, k9, kA, Option.getD_some] at hm)) | (refine wl_box (by rfl) rfl (by first | exact idV_cells _ | exact labV_cells _ _ | exact rectV_cells _ _ _ _ | rfl) hm ?_; clear hm; intro b1 w1 hm) | (go_at_call 19; refine (timed_c _).mono ?_; rintro e w1 ⟨rfl, hx⟩; replace hm := hm.call hx; clear hx) | (with_reducible first | refine stBs ?_ | refine stMs ?_ | refine stAp ?_ | refine stCo ?_)); (try simp only [k4, k5, k6, Act.put, k1, k2, k3]))
            replace hm : Mem w [] (((g, .cells cur 4 (0, 0)) :: Sa) ++ B3) _ := hm
            refine (tick_c tb tt tt _ [] l2 (by omega) hK2 _ _ hT3 hm.right.self).mono ?_
            rintro e w9 hx
            obtain ⟨sb, Sb, B4, rfl, hSb, hT4, hx⟩ := hx.out
            replace hm := hm.callBehind hx
            clear hx hT3
            obtain ⟨c2, cap2, rfl, _⟩ := hSb.view
            go_wp2_with ((first | refine wpList_skip (by rfl) ?_ | (refine wlL (hm := hm) (hu := by first | exact undOne) (hi := by (try simp only [rowOf_size]); first | exact sizeOne) (h := ?_); (try simp only [Act.put, k1, k2, k3]); (try simp only [List.nil_append])) | refine wlLC (hm := hm) (hu := by first | exact undBool) (h := ?_) | (refine wlS (hm := hm) (hv := (by first | rfl | exact idV_eq _ | exact labV_eq _ _ | exact rectV_eq _ _ _ _)) (hi := by (try simp only [rowOf_size]); first | exact sizeOne) (hs := by first | (simp only [rowOf_size]; done) | rfl) (h := ?_); clear hm; intro w1 hm; (try simp only [rowOf_set, k1, k2, k3, Value.cells, Act.eval, k7, k8, k9, kA, Option.getD_some] at hm)) | (refine wlSC (hm := hm) (hi := by first | exact sizeBool) (ho := by first | decide | (simp only [rowOf_size]; omega) | (simp; done)) (h := ?_); clear hm; intro w1 hm; (try simp only [rowOf_set, k1, k2, k3, Value.cells, Act.eval, k7, k8, k9, kA, Option.getD_some] at hm)) | (refine wlA (hz := by first | exact zeroOne) (hm := hm) (h := ?_); clear hm; intro b1 w1 hm; (try simp only [rowOf_set, k1, k2, k3, Value.cells, Act.eval, k7, k8, k9, kA, Option.getD_some] at hm)) | (refine wl_box (by rfl) rfl (by first | exact idV_cells _ | exact labV_cells _ _ | exact rectV_cells _ _ _ _ | rfl) hm ?_; clear hm; intro b1 w1 hm) | (go_at_call 19; refine (timed_c _).mono ?_; rintro e w1 ⟨rfl, hx⟩; replace hm := hm.call hx; clear hx) | (with_reducible first | refine stBs ?_ | refine stMs ?_ | refine stAp ?_ | refine stCo ?_)); (try simp only [k4, k5, k6, Act.put, k1, k2, k3]))
            go_ret
            exact ⟨rfl, hm.ext⟩
end Go.Proofs.Ythcpdjlomdchdaa
