/- Texts joined by program: LetL LetM LetN LetO LetG OpenI WirJ WirM LetR LetU LetV. -/
import Derived.WalkLawsBesides
import Derived.Test.YtijkmbebfodhdaaEGets1
/- (LetL) -/
namespace Go.Proofs.Ytijkmbebfodhdaa
open Go.RowKit
set_option linter.unusedSimpArgs false
set_option linter.unusedVariables false
set_option maxHeartbeats 1000000
set_option maxRecDepth 20000
theorem ld_old {P : Program} {a : Act} {w : World} {dst : Option Tmp} {ty : TypeId} {pos : String} {aft : Array Edge} {gd : Option (Nat × Bool)} {T : TypeId} {x : Operand} {ad : Addr} {v : Value} {d : TypeDesc} (hx : a.eval x = .pointer (some ad)) (hcell : w.cell? ad = some v)
    (hu : P.underlying T = some d) (hd : (match d with | .struct _ | .array _ _ => true | _ => false) = false) : (execOp a.eval ⟨dst, .load T x, ty, pos, aft, gd⟩).run P w = .ok (.value v) w := by
  have hagg : (isAgg T).run P w = .ok false w := by
    unfold isAgg
    rw [Sem.run_bind, run_underlying hu w]
    cases d <;> simp_all
  unfold execOp
  simp [hx, Instr.loadAt, Instr.sureAddr, Sem.run_bind, loadVar, hagg, hcell]
def sameInts (n : Nat) (z : Nat → Int) (m : Nat) (y : Nat → Int) : Bool := n == m && (List.range n).all fun i => z i == y i
theorem sameInts_no {n m : Nat} {z y : Nat → Int} (h : n ≠ m) : sameInts n z m y = false := by
  unfold sameInts
  rw [beq_eq_false_iff_ne.2 h, Bool.false_and]
theorem sameInts_at {n : Nat} {z y : Nat → Int} {i : Nat} (hi : i < n) (h : z i ≠ y i) : sameInts n z n y = false := by
  unfold sameInts
  rw [Bool.and_eq_false_iff]
  right
  rw [List.all_eq_false]
  exact ⟨i, List.mem_range.2 hi, by simpa using h⟩
theorem sameInts_all {n : Nat} {z y : Nat → Int} (h : ∀ i, i < n → z i = y i) : sameInts n z n y = true := by
  unfold sameInts
  rw [beq_self_eq_true, Bool.true_and, List.all_eq_true]
  intro i hi
  rw [h i (List.mem_range.1 hi)]
  simp
attribute [local irreducible] wpQuiet wpList wpAnyH Calls
theorem ints_c (c : Option Addr) (n cap : Nat) (z : Nat → Int) (c' : Option Addr) (m cap' : Nat) (y : Nat → Int) (hn : n < 2 ^ 62) (w : World) (h : IntsV w c n z) (h' : IntsV w c' m y) :
    Calls Try.prog 79 #[.slice c n cap, .slice c' m cap'] w fun e w' => e = .returned (.bool (sameInts n z m y)) ∧ Ext w w' := by
  by_cases hnm : n = m
  · subst hnm
    obtain ⟨res, hres⟩ : ∃ res, sameInts n z n y = res := ⟨_, rfl⟩
    rw [hres]
    have HRes := hid hres
    have HN := hid hn
    have H := hid h
    have H' := hid h'
    clear hres hn h h'
    go_enter Try.func79, Try.ntmps79
    have hm := Mem.refl w []
    go_wp2_with ((first | refine wpList_skip (by rfl) ?_ | (refine wlL (hm := hm) (hu := by first | exact undPeer | exact undID) (hi := by (try simp only [rowOf_size, idC_size, peerC_size]); first | exact sizePeer | exact sizeID) (h := ?_); (try simp only [Act.put, k1, k2, k3]); (try simp only [← peerV_eq, ← idV_eq])) | refine wlLC (hm := hm) (hu := by first | exact undInt) (h := ?_) | (refine yS (hm := hm) (hi := by (try simp only [rowOf_size, idC_size, peerC_size]); first | exact sizePeer | exact sizeID) (h := ?_); clear hm; intro w1 hm; (try simp only [rowOf_set, k1, k2, k3, Value.cells, Act.eval, k7, k8, k9, kA, Option.getD_some] at hm)) | (refine wlSC (hm := hm) (hi := by first | exact sizeInt) (ho := by first | decide | (simp only [rowOf_size, idC_size, peerC_size]; omega) | (simp; done)) (h := ?_); clear hm; intro w1 hm; (try simp only [rowOf_set, k1, k2, k3, Value.cells, Act.eval, k7, k8, k9, kA, Option.getD_some] at hm)) | (refine wlA (hz := by first | exact zeroPeer | exact zeroID) (hm := hm) (h := ?_); clear hm; intro b1 w1 hm; (try simp only [rowOf_set, k1, k2, k3, Value.cells, Act.eval, k7, k8, k9, kA, Option.getD_some] at hm)) | (refine wl_box (by rfl) rfl (by first | exact peerV_cells _ _ | exact letV_cells _ | exact idV_cells _ | rfl) hm ?_; clear hm; intro b1 w1 hm) | (go_at_call 67; refine (odd_c _ _).mono ?_; rintro e w1 ⟨rfl, hx⟩; replace hm := hm.call hx; clear hx) | (with_reducible first | refine stBs ?_ | refine stMs ?_ | refine stAp ?_ | refine stCo ?_)); (try simp only [k4, k5, k6, Act.put, k1, k2, k3]))
    go_loopw [5] (fun vi wr => ∃ i : Nat, i ≤ n ∧ vi = .int .i64 (i : Int) ∧ (∀ j, j < i → z j = y j) ∧ Mem w [] [] wr)
      (fun vi _ => (n - intOf vi).toNat)
    case atStart => exact ⟨0, by omega, rfl, fun j hj => by omega, hm⟩
    case round =>
      clear hm
      obtain ⟨i, hi, rfl, hlow, hm⟩ := hrel
      by_cases hin : i < n
      · obtain ⟨a, rfl, hcell⟩ := H.out i hin
        obtain ⟨a', rfl, hcell'⟩ := H'.out i hin
        have e1 : (i : Int) < (n : Int) := by omega
        have e2 : (0 : Int) ≤ (i : Int) := by omega
        have g1 : IntKind.i64.wrap ((i : Int) + 1) = (i : Int) + 1 := wrap_i64 (by have := HN.out; omega) (by have := HN.out; omega)
        obtain ⟨u, hu⟩ : ∃ u, z i = u := ⟨_, rfl⟩
        obtain ⟨v, hv⟩ : ∃ v, y i = v := ⟨_, rfl⟩
        rw [hu] at hcell
        rw [hv] at hcell'
        have C1 := hid hcell
        have C2 := hid hcell'
        have HU := hid hu
        have HV := hid hv
        have HL := hid hlow
        clear hcell hcell' hu hv hlow hi
        go_wp2_with ((first | refine wpList_skip (by rfl) ?_ | (refine wlL (hm := hm) (hu := by first | exact undPeer | exact undID) (hi := by (try simp only [rowOf_size, idC_size, peerC_size]); first | exact sizePeer | exact sizeID) (h := ?_); (try simp only [Act.put, k1, k2, k3]); (try simp only [← peerV_eq, ← idV_eq])) | refine wlLC (hm := hm) (hu := by first | exact undInt) (h := ?_) | (refine yS (hm := hm) (hi := by (try simp only [rowOf_size, idC_size, peerC_size]); first | exact sizePeer | exact sizeID) (h := ?_); clear hm; intro w1 hm; (try simp only [rowOf_set, k1, k2, k3, Value.cells, Act.eval, k7, k8, k9, kA, Option.getD_some] at hm)) | (refine wlSC (hm := hm) (hi := by first | exact sizeInt) (ho := by first | decide | (simp only [rowOf_size, idC_size, peerC_size]; omega) | (simp; done)) (h := ?_); clear hm; intro w1 hm; (try simp only [rowOf_set, k1, k2, k3, Value.cells, Act.eval, k7, k8, k9, kA, Option.getD_some] at hm)) | (refine wlA (hz := by first | exact zeroPeer | exact zeroID) (hm := hm) (h := ?_); clear hm; intro b1 w1 hm; (try simp only [rowOf_set, k1, k2, k3, Value.cells, Act.eval, k7, k8, k9, kA, Option.getD_some] at hm)) | (refine wl_box (by rfl) rfl (by first | exact peerV_cells _ _ | exact letV_cells _ | exact idV_cells _ | rfl) hm ?_; clear hm; intro b1 w1 hm) | (go_at_call 67; refine (odd_c _ _).mono ?_; rintro e w1 ⟨rfl, hx⟩; replace hm := hm.call hx; clear hx) | (with_reducible first | refine stBs ?_ | refine stMs ?_ | refine stAp ?_ | refine stCo ?_)); (try simp only [k4, k5, k6, Act.put, k1, k2, k3]))
        go_wp2_with (with_reducible first | refine stAl ?_ | refine stBo ?_ | refine stLo ?_ | refine stSo ?_ | refine stBu ?_ | refine stBs ?_ | refine stMs ?_ | refine stAp ?_ | refine stCo ?_); refine wp_quiet_mem (by kernel_rfl) (by kernel_rfl) hm ?_
        refine wqS (h := ?_)
        simp only [Act.put, k1, k2, k3]
        refine wqS (h := ?_)
        simp only [Act.put, k1, k2, k3]
        refine wqS (h := ?_)
        simp only [Act.put, k1, k2, k3]
        refine wq_run (v := .int .i64 u) (by rfl) (fun w' hC => ld_old rfl (by first | exact cell_old hC C1.out | simpa using cell_old hC C1.out) undInt rfl) ?_; simp only [Act.put, k1, k2, k3]
        refine wqS (h := ?_)
        simp only [Act.put, k1, k2, k3]
        refine wqS (h := ?_)
        simp only [Act.put, k1, k2, k3]
        refine wqS (h := ?_)
        simp only [Act.put, k1, k2, k3]
        refine wq_run (v := .int .i64 v) (by rfl) (fun w' hC => ld_old rfl (by first | exact cell_old hC C2.out | simpa using cell_old hC C2.out) undInt rfl) ?_; simp only [Act.put, k1, k2, k3]
        repeat ((first | refine wq_skip (by rfl) ?_ | (refine wqL (hu := by first | exact undPeer | exact undID) (hi := by (try simp only [rowOf_size, idC_size, peerC_size]); first | exact sizePeer | exact sizeID) (h := ?_); (try simp only [Act.put, k1, k2, k3]); (try simp only [← peerV_eq, ← idV_eq])) | refine wqLC (hu := by first | exact undInt) (h := ?_) | ((with_reducible show wpQuiet _ _ _ _ (⟨_, .call _, _, _, _, _⟩ :: _) _); refine wq_ask (by rfl) ?_; apply Exists.intro; refine ⟨?_, ?_⟩; (focus (intro w hC; go_simp; first | (go_at_call 67; exact (odd_c _ _).mono fun e w' h => ⟨h.1, hC.call h.2⟩)))) | refine wqS (h := ?_)); (try simp only [k4, k5, k6, Act.put, k1, k2, k3]))
        refine wpQuiet_nil ?_; clear hm; intro w5 hm
        by_cases huv : u = v
        · subst huv
          have d1 : (u != u) = false := by simp
          have d2 : (u == u) = true := by simp
          go_wp2_with ((first | refine wpList_skip (by rfl) ?_ | (refine wlL (hm := hm) (hu := by first | exact undPeer | exact undID) (hi := by (try simp only [rowOf_size, idC_size, peerC_size]); first | exact sizePeer | exact sizeID) (h := ?_); (try simp only [Act.put, k1, k2, k3]); (try simp only [← peerV_eq, ← idV_eq])) | refine wlLC (hm := hm) (hu := by first | exact undInt) (h := ?_) | (refine yS (hm := hm) (hi := by (try simp only [rowOf_size, idC_size, peerC_size]); first | exact sizePeer | exact sizeID) (h := ?_); clear hm; intro w1 hm; (try simp only [rowOf_set, k1, k2, k3, Value.cells, Act.eval, k7, k8, k9, kA, Option.getD_some] at hm)) | (refine wlSC (hm := hm) (hi := by first | exact sizeInt) (ho := by first | decide | (simp only [rowOf_size, idC_size, peerC_size]; omega) | (simp; done)) (h := ?_); clear hm; intro w1 hm; (try simp only [rowOf_set, k1, k2, k3, Value.cells, Act.eval, k7, k8, k9, kA, Option.getD_some] at hm)) | (refine wlA (hz := by first | exact zeroPeer | exact zeroID) (hm := hm) (h := ?_); clear hm; intro b1 w1 hm; (try simp only [rowOf_set, k1, k2, k3, Value.cells, Act.eval, k7, k8, k9, kA, Option.getD_some] at hm)) | (refine wl_box (by rfl) rfl (by first | exact peerV_cells _ _ | exact letV_cells _ | exact idV_cells _ | rfl) hm ?_; clear hm; intro b1 w1 hm) | (go_at_call 67; refine (odd_c _ _).mono ?_; rintro e w1 ⟨rfl, hx⟩; replace hm := hm.call hx; clear hx) | (with_reducible first | refine stBs ?_ | refine stMs ?_ | refine stAp ?_ | refine stCo ?_)); (try simp only [k4, k5, k6, Act.put, k1, k2, k3]))
          go_roundw
          case rel => exact ⟨i + 1, by omega, by go_num, fun j hj => by
            by_cases hji : j = i
            · rw [hji, HU.out, HV.out]
            · exact HL.out j (by omega), hm⟩
          case measure => (simp [intOf]; try omega)
        · have d1 : (u != v) = true := by simp [bne, huv]
          have d2 : (u == v) = false := by simp [huv]
          go_wp2_with ((first | refine wpList_skip (by rfl) ?_ | (refine wlL (hm := hm) (hu := by first | exact undPeer | exact undID) (hi := by (try simp only [rowOf_size, idC_size, peerC_size]); first | exact sizePeer | exact sizeID) (h := ?_); (try simp only [Act.put, k1, k2, k3]); (try simp only [← peerV_eq, ← idV_eq])) | refine wlLC (hm := hm) (hu := by first | exact undInt) (h := ?_) | (refine yS (hm := hm) (hi := by (try simp only [rowOf_size, idC_size, peerC_size]); first | exact sizePeer | exact sizeID) (h := ?_); clear hm; intro w1 hm; (try simp only [rowOf_set, k1, k2, k3, Value.cells, Act.eval, k7, k8, k9, kA, Option.getD_some] at hm)) | (refine wlSC (hm := hm) (hi := by first | exact sizeInt) (ho := by first | decide | (simp only [rowOf_size, idC_size, peerC_size]; omega) | (simp; done)) (h := ?_); clear hm; intro w1 hm; (try simp only [rowOf_set, k1, k2, k3, Value.cells, Act.eval, k7, k8, k9, kA, Option.getD_some] at hm)) | (refine wlA (hz := by first | exact zeroPeer | exact zeroID) (hm := hm) (h := ?_); clear hm; intro b1 w1 hm; (try simp only [rowOf_set, k1, k2, k3, Value.cells, Act.eval, k7, k8, k9, kA, Option.getD_some] at hm)) | (refine wl_box (by rfl) rfl (by first | exact peerV_cells _ _ | exact letV_cells _ | exact idV_cells _ | rfl) hm ?_; clear hm; intro b1 w1 hm) | (go_at_call 67; refine (odd_c _ _).mono ?_; rintro e w1 ⟨rfl, hx⟩; replace hm := hm.call hx; clear hx) | (with_reducible first | refine stBs ?_ | refine stMs ?_ | refine stAp ?_ | refine stCo ?_)); (try simp only [k4, k5, k6, Act.put, k1, k2, k3]))
          go_ret
          exact ⟨by rw [← HRes.out, sameInts_at hin (by rw [HU.out, HV.out]; exact huv)] <;> rfl, hm.ext⟩
      · obtain rfl : i = n := by omega
        have HL := hid hlow
        clear hi hin hlow
        go_wp2_with ((first | refine wpList_skip (by rfl) ?_ | (refine wlL (hm := hm) (hu := by first | exact undPeer | exact undID) (hi := by (try simp only [rowOf_size, idC_size, peerC_size]); first | exact sizePeer | exact sizeID) (h := ?_); (try simp only [Act.put, k1, k2, k3]); (try simp only [← peerV_eq, ← idV_eq])) | refine wlLC (hm := hm) (hu := by first | exact undInt) (h := ?_) | (refine yS (hm := hm) (hi := by (try simp only [rowOf_size, idC_size, peerC_size]); first | exact sizePeer | exact sizeID) (h := ?_); clear hm; intro w1 hm; (try simp only [rowOf_set, k1, k2, k3, Value.cells, Act.eval, k7, k8, k9, kA, Option.getD_some] at hm)) | (refine wlSC (hm := hm) (hi := by first | exact sizeInt) (ho := by first | decide | (simp only [rowOf_size, idC_size, peerC_size]; omega) | (simp; done)) (h := ?_); clear hm; intro w1 hm; (try simp only [rowOf_set, k1, k2, k3, Value.cells, Act.eval, k7, k8, k9, kA, Option.getD_some] at hm)) | (refine wlA (hz := by first | exact zeroPeer | exact zeroID) (hm := hm) (h := ?_); clear hm; intro b1 w1 hm; (try simp only [rowOf_set, k1, k2, k3, Value.cells, Act.eval, k7, k8, k9, kA, Option.getD_some] at hm)) | (refine wl_box (by rfl) rfl (by first | exact peerV_cells _ _ | exact letV_cells _ | exact idV_cells _ | rfl) hm ?_; clear hm; intro b1 w1 hm) | (go_at_call 67; refine (odd_c _ _).mono ?_; rintro e w1 ⟨rfl, hx⟩; replace hm := hm.call hx; clear hx) | (with_reducible first | refine stBs ?_ | refine stMs ?_ | refine stAp ?_ | refine stCo ?_)); (try simp only [k4, k5, k6, Act.put, k1, k2, k3]))
        go_ret
        exact ⟨by rw [← HRes.out, sameInts_all HL.out] <;> rfl, hm.ext⟩
  · rw [sameInts_no hnm]
    have d0 : ((n : Int) != (m : Int)) = true := by rw [bne_iff_ne]; omega
    have d1 : ¬ (n : Int) = (m : Int) := by omega
    clear h h'
    go_enter Try.func79, Try.ntmps79
    have hm := Mem.refl w []
    go_wp2_with ((first | refine wpList_skip (by rfl) ?_ | (refine wlL (hm := hm) (hu := by first | exact undPeer | exact undID) (hi := by (try simp only [rowOf_size, idC_size, peerC_size]); first | exact sizePeer | exact sizeID) (h := ?_); (try simp only [Act.put, k1, k2, k3]); (try simp only [← peerV_eq, ← idV_eq])) | refine wlLC (hm := hm) (hu := by first | exact undInt) (h := ?_) | (refine yS (hm := hm) (hi := by (try simp only [rowOf_size, idC_size, peerC_size]); first | exact sizePeer | exact sizeID) (h := ?_); clear hm; intro w1 hm; (try simp only [rowOf_set, k1, k2, k3, Value.cells, Act.eval, k7, k8, k9, kA, Option.getD_some] at hm)) | (refine wlSC (hm := hm) (hi := by first | exact sizeInt) (ho := by first | decide | (simp only [rowOf_size, idC_size, peerC_size]; omega) | (simp; done)) (h := ?_); clear hm; intro w1 hm; (try simp only [rowOf_set, k1, k2, k3, Value.cells, Act.eval, k7, k8, k9, kA, Option.getD_some] at hm)) | (refine wlA (hz := by first | exact zeroPeer | exact zeroID) (hm := hm) (h := ?_); clear hm; intro b1 w1 hm; (try simp only [rowOf_set, k1, k2, k3, Value.cells, Act.eval, k7, k8, k9, kA, Option.getD_some] at hm)) | (refine wl_box (by rfl) rfl (by first | exact peerV_cells _ _ | exact letV_cells _ | exact idV_cells _ | rfl) hm ?_; clear hm; intro b1 w1 hm) | (go_at_call 67; refine (odd_c _ _).mono ?_; rintro e w1 ⟨rfl, hx⟩; replace hm := hm.call hx; clear hx) | (with_reducible first | refine stBs ?_ | refine stMs ?_ | refine stAp ?_ | refine stCo ?_)); (try simp only [k4, k5, k6, Act.put, k1, k2, k3]))
    go_ret
    exact ⟨rfl, hm.ext⟩
end Go.Proofs.Ytijkmbebfodhdaa

/- (LetM) -/
namespace Go.Proofs.Ytijkmbebfodhdaa
open Go.RowKit
set_option linter.unusedSimpArgs false
set_option linter.unusedVariables false
set_option maxHeartbeats 1000000
set_option maxRecDepth 20000
def samePeers (n : Nat) (za : Nat → Int) (zp : Nat → Nat) (m : Nat) (ya : Nat → Int) (yp : Nat → Nat) : Bool := n == m && (List.range n).all fun i => samePeer (za i) (zp i) (ya i) (yp i)
theorem samePeers_no {n m : Nat} {za : Nat → Int} {zp : Nat → Nat} {ya : Nat → Int} {yp : Nat → Nat} (h : n ≠ m) : samePeers n za zp m ya yp = false := by
  unfold samePeers
  rw [beq_eq_false_iff_ne.2 h, Bool.false_and]
theorem samePeers_at {n : Nat} {za : Nat → Int} {zp : Nat → Nat} {ya : Nat → Int} {yp : Nat → Nat} {i : Nat} (hi : i < n) (h : samePeer (za i) (zp i) (ya i) (yp i) = false) : samePeers n za zp n ya yp = false := by
  unfold samePeers
  rw [Bool.and_eq_false_iff]
  right
  rw [List.all_eq_false]
  exact ⟨i, List.mem_range.2 hi, by rw [h]; decide⟩
theorem samePeers_all {n : Nat} {za : Nat → Int} {zp : Nat → Nat} {ya : Nat → Int} {yp : Nat → Nat} (h : ∀ i, i < n → samePeer (za i) (zp i) (ya i) (yp i) = true) : samePeers n za zp n ya yp = true := by
  unfold samePeers
  rw [beq_self_eq_true, Bool.true_and, List.all_eq_true]
  intro i hi
  exact h i (List.mem_range.1 hi)
attribute [local irreducible] wpQuiet wpList wpAnyH Calls
theorem peers_c (c : Option Addr) (n cap : Nat) (za : Nat → Int) (zp : Nat → Nat) (c' : Option Addr) (m cap' : Nat) (ya : Nat → Int) (yp : Nat → Nat) (hn : n < 2 ^ 62) (w : World) (h : PeersV w c n za zp) (h' : PeersV w c' m ya yp) :
    Calls Try.prog 80 #[.slice c n cap, .slice c' m cap'] w fun e w' => e = .returned (.bool (samePeers n za zp m ya yp)) ∧ Ext w w' := by
  by_cases hnm : n = m
  · subst hnm
    obtain ⟨res, hres⟩ : ∃ res, samePeers n za zp n ya yp = res := ⟨_, rfl⟩
    rw [hres]
    have HRes := hid hres
    have HN := hid hn
    have H := hid h
    have H' := hid h'
    clear hres hn h h'
    go_enter Try.func80, Try.ntmps80
    have hm := Mem.refl w []
    go_wp2_with ((first | refine wpList_skip (by rfl) ?_ | (refine wlL (hm := hm) (hu := by first | exact undPeer | exact undID) (hi := by (try simp only [rowOf_size, idC_size, peerC_size]); first | exact sizePeer | exact sizeID) (h := ?_); (try simp only [Act.put, k1, k2, k3]); (try simp only [← peerV_eq, ← idV_eq])) | refine wlLC (hm := hm) (hu := by first | exact undInt) (h := ?_) | (refine yS (hm := hm) (hi := by (try simp only [rowOf_size, idC_size, peerC_size]); first | exact sizePeer | exact sizeID) (h := ?_); clear hm; intro w1 hm; (try simp only [rowOf_set, k1, k2, k3, Value.cells, Act.eval, k7, k8, k9, kA, Option.getD_some] at hm)) | (refine wlSC (hm := hm) (hi := by first | exact sizeInt) (ho := by first | decide | (simp only [rowOf_size, idC_size, peerC_size]; omega) | (simp; done)) (h := ?_); clear hm; intro w1 hm; (try simp only [rowOf_set, k1, k2, k3, Value.cells, Act.eval, k7, k8, k9, kA, Option.getD_some] at hm)) | (refine wlA (hz := by first | exact zeroPeer | exact zeroID) (hm := hm) (h := ?_); clear hm; intro b1 w1 hm; (try simp only [rowOf_set, k1, k2, k3, Value.cells, Act.eval, k7, k8, k9, kA, Option.getD_some] at hm)) | (refine wl_box (by rfl) rfl (by first | exact peerV_cells _ _ | exact letV_cells _ | exact idV_cells _ | rfl) hm ?_; clear hm; intro b1 w1 hm) | (go_at_call 67; refine (odd_c _ _).mono ?_; rintro e w1 ⟨rfl, hx⟩; replace hm := hm.call hx; clear hx) | (with_reducible first | refine stBs ?_ | refine stMs ?_ | refine stAp ?_ | refine stCo ?_)); (try simp only [k4, k5, k6, Act.put, k1, k2, k3]))
    go_loopw [5] (fun vi wr => ∃ i : Nat, i ≤ n ∧ vi = .int .i64 (i : Int) ∧ (∀ j, j < i → samePeer (za j) (zp j) (ya j) (yp j) = true) ∧ Mem w [] [] wr)
      (fun vi _ => (n - intOf vi).toNat)
    case atStart => exact ⟨0, by omega, rfl, fun j hj => by omega, hm⟩
    case round =>
      clear hm
      obtain ⟨i, hi, rfl, hlow, hm⟩ := hrel
      by_cases hin : i < n
      · obtain ⟨a, rfl, hcell⟩ := H.out i hin
        obtain ⟨a', rfl, hcell'⟩ := H'.out i hin
        have e1 : (i : Int) < (n : Int) := by omega
        have e2 : (0 : Int) ≤ (i : Int) := by omega
        have g1 : IntKind.i64.wrap ((i : Int) + 1) = (i : Int) + 1 := wrap_i64 (by have := HN.out; omega) (by have := HN.out; omega)
        have HQ := hid (show samePeer (za i) (zp i) (ya i) (yp i) = samePeer (za i) (zp i) (ya i) (yp i) from rfl)
        obtain ⟨q, hq⟩ : ∃ q, samePeer (za i) (zp i) (ya i) (yp i) = q := ⟨_, rfl⟩
        have HQ := hid hq
        obtain ⟨u, hu⟩ : ∃ u, za i = u := ⟨_, rfl⟩
        obtain ⟨v, hv⟩ : ∃ v, ya i = v := ⟨_, rfl⟩
        obtain ⟨u', hu'⟩ : ∃ u, zp i = u := ⟨_, rfl⟩
        obtain ⟨v', hv'⟩ : ∃ v, yp i = v := ⟨_, rfl⟩
        rw [hu, hu'] at hcell
        rw [hv, hv'] at hcell'
        rw [hu, hv, hu', hv'] at hq
        have C1 := hid hcell
        have C2 := hid hcell'
        have HL := hid hlow
        clear hcell hcell' hu hv hu' hv' hlow hi
        go_wp2_with ((first | refine wpList_skip (by rfl) ?_ | (refine wlL (hm := hm) (hu := by first | exact undPeer | exact undID) (hi := by (try simp only [rowOf_size, idC_size, peerC_size]); first | exact sizePeer | exact sizeID) (h := ?_); (try simp only [Act.put, k1, k2, k3]); (try simp only [← peerV_eq, ← idV_eq])) | refine wlLC (hm := hm) (hu := by first | exact undInt) (h := ?_) | (refine yS (hm := hm) (hi := by (try simp only [rowOf_size, idC_size, peerC_size]); first | exact sizePeer | exact sizeID) (h := ?_); clear hm; intro w1 hm; (try simp only [rowOf_set, k1, k2, k3, Value.cells, Act.eval, k7, k8, k9, kA, Option.getD_some] at hm)) | (refine wlSC (hm := hm) (hi := by first | exact sizeInt) (ho := by first | decide | (simp only [rowOf_size, idC_size, peerC_size]; omega) | (simp; done)) (h := ?_); clear hm; intro w1 hm; (try simp only [rowOf_set, k1, k2, k3, Value.cells, Act.eval, k7, k8, k9, kA, Option.getD_some] at hm)) | (refine wlA (hz := by first | exact zeroPeer | exact zeroID) (hm := hm) (h := ?_); clear hm; intro b1 w1 hm; (try simp only [rowOf_set, k1, k2, k3, Value.cells, Act.eval, k7, k8, k9, kA, Option.getD_some] at hm)) | (refine wl_box (by rfl) rfl (by first | exact peerV_cells _ _ | exact letV_cells _ | exact idV_cells _ | rfl) hm ?_; clear hm; intro b1 w1 hm) | (go_at_call 67; refine (odd_c _ _).mono ?_; rintro e w1 ⟨rfl, hx⟩; replace hm := hm.call hx; clear hx) | (with_reducible first | refine stBs ?_ | refine stMs ?_ | refine stAp ?_ | refine stCo ?_)); (try simp only [k4, k5, k6, Act.put, k1, k2, k3]))
        go_wp2_with (with_reducible first | refine stAl ?_ | refine stBo ?_ | refine stLo ?_ | refine stSo ?_ | refine stBu ?_ | refine stBs ?_ | refine stMs ?_ | refine stAp ?_ | refine stCo ?_); refine wp_quiet_mem (by kernel_rfl) (by kernel_rfl) hm ?_
        refine wqS (h := ?_)
        simp only [Act.put, k1, k2, k3]
        refine wqS (h := ?_)
        simp only [Act.put, k1, k2, k3]
        refine wqS (h := ?_)
        simp only [Act.put, k1, k2, k3]
        refine wq_run (v := .agg (peerC u u')) (by rfl) (fun w' hC => ld_oldRow rfl (by first | exact fun j v h => cell_old hC (C1.out j v h) | simpa using fun j v h => cell_old hC (C1.out j v h)) undPeer rfl (by rw [peerC_size]; exact sizePeer)) ?_; simp only [Act.put, k1, k2, k3]; simp only [← peerV_eq]
        refine wqS (h := ?_)
        simp only [Act.put, k1, k2, k3]
        refine wqS (h := ?_)
        simp only [Act.put, k1, k2, k3]
        refine wqS (h := ?_)
        simp only [Act.put, k1, k2, k3]
        refine wq_run (v := .agg (peerC v v')) (by rfl) (fun w' hC => ld_oldRow rfl (by first | exact fun j v h => cell_old hC (C2.out j v h) | simpa using fun j v h => cell_old hC (C2.out j v h)) undPeer rfl (by rw [peerC_size]; exact sizePeer)) ?_; simp only [Act.put, k1, k2, k3]; simp only [← peerV_eq]
        cases q with
        | true =>
          repeat ((first | refine wq_skip (by rfl) ?_ | (refine wqL (hu := by first | exact undPeer | exact undID) (hi := by (try simp only [rowOf_size, idC_size, peerC_size]); first | exact sizePeer | exact sizeID) (h := ?_); (try simp only [Act.put, k1, k2, k3]); (try simp only [← peerV_eq, ← idV_eq])) | refine wqLC (hu := by first | exact undInt) (h := ?_) | ((with_reducible show wpQuiet _ _ _ _ (⟨_, .call _, _, _, _, _⟩ :: _) _); refine wq_ask (by rfl) ?_; apply Exists.intro; refine ⟨?_, ?_⟩; (focus (intro w hC; go_simp; first | (go_at_call 67; exact (odd_c _ _).mono fun e w' h => ⟨h.1, hC.call h.2⟩)))) | refine wqS (h := ?_)); (try simp only [k4, k5, k6, Act.put, k1, k2, k3]))
          refine wpQuiet_nil ?_; clear hm; intro w5 hm
          go_wp2_with ((first | refine wpList_skip (by rfl) ?_ | (refine wlL (hm := hm) (hu := by first | exact undPeer | exact undID) (hi := by (try simp only [rowOf_size, idC_size, peerC_size]); first | exact sizePeer | exact sizeID) (h := ?_); (try simp only [Act.put, k1, k2, k3]); (try simp only [← peerV_eq, ← idV_eq])) | refine wlLC (hm := hm) (hu := by first | exact undInt) (h := ?_) | (refine yS (hm := hm) (hi := by (try simp only [rowOf_size, idC_size, peerC_size]); first | exact sizePeer | exact sizeID) (h := ?_); clear hm; intro w1 hm; (try simp only [rowOf_set, k1, k2, k3, Value.cells, Act.eval, k7, k8, k9, kA, Option.getD_some] at hm)) | (refine wlSC (hm := hm) (hi := by first | exact sizeInt) (ho := by first | decide | (simp only [rowOf_size, idC_size, peerC_size]; omega) | (simp; done)) (h := ?_); clear hm; intro w1 hm; (try simp only [rowOf_set, k1, k2, k3, Value.cells, Act.eval, k7, k8, k9, kA, Option.getD_some] at hm)) | (refine wlA (hz := by first | exact zeroPeer | exact zeroID) (hm := hm) (h := ?_); clear hm; intro b1 w1 hm; (try simp only [rowOf_set, k1, k2, k3, Value.cells, Act.eval, k7, k8, k9, kA, Option.getD_some] at hm)) | (refine wl_box (by rfl) rfl (by first | exact peerV_cells _ _ | exact letV_cells _ | exact idV_cells _ | rfl) hm ?_; clear hm; intro b1 w1 hm) | (go_at_call 67; refine (odd_c _ _).mono ?_; rintro e w1 ⟨rfl, hx⟩; replace hm := hm.call hx; clear hx) | (with_reducible first | refine stBs ?_ | refine stMs ?_ | refine stAp ?_ | refine stCo ?_)); (try simp only [k4, k5, k6, Act.put, k1, k2, k3]))
          go_roundw
          case rel => exact ⟨i + 1, by omega, by go_num, fun j hj => by
            by_cases hji : j = i
            · rw [hji]; exact HQ.out
            · exact HL.out j (by omega), hm⟩
          case measure => (simp [intOf]; try omega)
        | false =>
          repeat ((first | refine wq_skip (by rfl) ?_ | (refine wqL (hu := by first | exact undPeer | exact undID) (hi := by (try simp only [rowOf_size, idC_size, peerC_size]); first | exact sizePeer | exact sizeID) (h := ?_); (try simp only [Act.put, k1, k2, k3]); (try simp only [← peerV_eq, ← idV_eq])) | refine wqLC (hu := by first | exact undInt) (h := ?_) | ((with_reducible show wpQuiet _ _ _ _ (⟨_, .call _, _, _, _, _⟩ :: _) _); refine wq_ask (by rfl) ?_; apply Exists.intro; refine ⟨?_, ?_⟩; (focus (intro w hC; go_simp; first | (go_at_call 67; exact (odd_c _ _).mono fun e w' h => ⟨h.1, hC.call h.2⟩)))) | refine wqS (h := ?_)); (try simp only [k4, k5, k6, Act.put, k1, k2, k3]))
          refine wpQuiet_nil ?_; clear hm; intro w5 hm
          go_wp2_with ((first | refine wpList_skip (by rfl) ?_ | (refine wlL (hm := hm) (hu := by first | exact undPeer | exact undID) (hi := by (try simp only [rowOf_size, idC_size, peerC_size]); first | exact sizePeer | exact sizeID) (h := ?_); (try simp only [Act.put, k1, k2, k3]); (try simp only [← peerV_eq, ← idV_eq])) | refine wlLC (hm := hm) (hu := by first | exact undInt) (h := ?_) | (refine yS (hm := hm) (hi := by (try simp only [rowOf_size, idC_size, peerC_size]); first | exact sizePeer | exact sizeID) (h := ?_); clear hm; intro w1 hm; (try simp only [rowOf_set, k1, k2, k3, Value.cells, Act.eval, k7, k8, k9, kA, Option.getD_some] at hm)) | (refine wlSC (hm := hm) (hi := by first | exact sizeInt) (ho := by first | decide | (simp only [rowOf_size, idC_size, peerC_size]; omega) | (simp; done)) (h := ?_); clear hm; intro w1 hm; (try simp only [rowOf_set, k1, k2, k3, Value.cells, Act.eval, k7, k8, k9, kA, Option.getD_some] at hm)) | (refine wlA (hz := by first | exact zeroPeer | exact zeroID) (hm := hm) (h := ?_); clear hm; intro b1 w1 hm; (try simp only [rowOf_set, k1, k2, k3, Value.cells, Act.eval, k7, k8, k9, kA, Option.getD_some] at hm)) | (refine wl_box (by rfl) rfl (by first | exact peerV_cells _ _ | exact letV_cells _ | exact idV_cells _ | rfl) hm ?_; clear hm; intro b1 w1 hm) | (go_at_call 67; refine (odd_c _ _).mono ?_; rintro e w1 ⟨rfl, hx⟩; replace hm := hm.call hx; clear hx) | (with_reducible first | refine stBs ?_ | refine stMs ?_ | refine stAp ?_ | refine stCo ?_)); (try simp only [k4, k5, k6, Act.put, k1, k2, k3]))
          go_ret
          exact ⟨by rw [← HRes.out, samePeers_at hin HQ.out] <;> rfl, hm.ext⟩
      · obtain rfl : i = n := by omega
        have HL := hid hlow
        clear hi hin hlow
        go_wp2_with ((first | refine wpList_skip (by rfl) ?_ | (refine wlL (hm := hm) (hu := by first | exact undPeer | exact undID) (hi := by (try simp only [rowOf_size, idC_size, peerC_size]); first | exact sizePeer | exact sizeID) (h := ?_); (try simp only [Act.put, k1, k2, k3]); (try simp only [← peerV_eq, ← idV_eq])) | refine wlLC (hm := hm) (hu := by first | exact undInt) (h := ?_) | (refine yS (hm := hm) (hi := by (try simp only [rowOf_size, idC_size, peerC_size]); first | exact sizePeer | exact sizeID) (h := ?_); clear hm; intro w1 hm; (try simp only [rowOf_set, k1, k2, k3, Value.cells, Act.eval, k7, k8, k9, kA, Option.getD_some] at hm)) | (refine wlSC (hm := hm) (hi := by first | exact sizeInt) (ho := by first | decide | (simp only [rowOf_size, idC_size, peerC_size]; omega) | (simp; done)) (h := ?_); clear hm; intro w1 hm; (try simp only [rowOf_set, k1, k2, k3, Value.cells, Act.eval, k7, k8, k9, kA, Option.getD_some] at hm)) | (refine wlA (hz := by first | exact zeroPeer | exact zeroID) (hm := hm) (h := ?_); clear hm; intro b1 w1 hm; (try simp only [rowOf_set, k1, k2, k3, Value.cells, Act.eval, k7, k8, k9, kA, Option.getD_some] at hm)) | (refine wl_box (by rfl) rfl (by first | exact peerV_cells _ _ | exact letV_cells _ | exact idV_cells _ | rfl) hm ?_; clear hm; intro b1 w1 hm) | (go_at_call 67; refine (odd_c _ _).mono ?_; rintro e w1 ⟨rfl, hx⟩; replace hm := hm.call hx; clear hx) | (with_reducible first | refine stBs ?_ | refine stMs ?_ | refine stAp ?_ | refine stCo ?_)); (try simp only [k4, k5, k6, Act.put, k1, k2, k3]))
        go_ret
        exact ⟨by rw [← HRes.out, samePeers_all HL.out] <;> rfl, hm.ext⟩
  · rw [samePeers_no hnm]
    have d0 : ((n : Int) != (m : Int)) = true := by rw [bne_iff_ne]; omega
    have d1 : ¬ (n : Int) = (m : Int) := by omega
    clear h h'
    go_enter Try.func80, Try.ntmps80
    have hm := Mem.refl w []
    go_wp2_with ((first | refine wpList_skip (by rfl) ?_ | (refine wlL (hm := hm) (hu := by first | exact undPeer | exact undID) (hi := by (try simp only [rowOf_size, idC_size, peerC_size]); first | exact sizePeer | exact sizeID) (h := ?_); (try simp only [Act.put, k1, k2, k3]); (try simp only [← peerV_eq, ← idV_eq])) | refine wlLC (hm := hm) (hu := by first | exact undInt) (h := ?_) | (refine yS (hm := hm) (hi := by (try simp only [rowOf_size, idC_size, peerC_size]); first | exact sizePeer | exact sizeID) (h := ?_); clear hm; intro w1 hm; (try simp only [rowOf_set, k1, k2, k3, Value.cells, Act.eval, k7, k8, k9, kA, Option.getD_some] at hm)) | (refine wlSC (hm := hm) (hi := by first | exact sizeInt) (ho := by first | decide | (simp only [rowOf_size, idC_size, peerC_size]; omega) | (simp; done)) (h := ?_); clear hm; intro w1 hm; (try simp only [rowOf_set, k1, k2, k3, Value.cells, Act.eval, k7, k8, k9, kA, Option.getD_some] at hm)) | (refine wlA (hz := by first | exact zeroPeer | exact zeroID) (hm := hm) (h := ?_); clear hm; intro b1 w1 hm; (try simp only [rowOf_set, k1, k2, k3, Value.cells, Act.eval, k7, k8, k9, kA, Option.getD_some] at hm)) | (refine wl_box (by rfl) rfl (by first | exact peerV_cells _ _ | exact letV_cells _ | exact idV_cells _ | rfl) hm ?_; clear hm; intro b1 w1 hm) | (go_at_call 67; refine (odd_c _ _).mono ?_; rintro e w1 ⟨rfl, hx⟩; replace hm := hm.call hx; clear hx) | (with_reducible first | refine stBs ?_ | refine stMs ?_ | refine stAp ?_ | refine stCo ?_)); (try simp only [k4, k5, k6, Act.put, k1, k2, k3]))
    go_ret
    exact ⟨rfl, hm.ext⟩
end Go.Proofs.Ytijkmbebfodhdaa

/- (LetN) -/
namespace Go.Proofs.Ytijkmbebfodhdaa
open Go.RowKit
set_option linter.unusedSimpArgs false
set_option linter.unusedVariables false
set_option maxHeartbeats 2000000
set_option maxRecDepth 20000
theorem undBool : Try.prog.underlying 4 = some .bool := by kernel_rfl
theorem sizeBool : (Try.prog.info? 4).map (·.size) = some 1 := by kernel_rfl
attribute [local irreducible] wpQuiet wpList wpAnyH Calls
theorem ints_q {c : Option Addr} {n cap : Nat} {z : Nat → Int} {c' : Option Addr} {m cap' : Nat} {y : Nat → Int} {q : Bool} (hq : sameInts n z m y = q) (hn : n < 2 ^ 62) (w : World) (h : IntsV w c n z) (h' : IntsV w c' m y) :
    Calls Try.prog 79 #[.slice c n cap, .slice c' m cap'] w fun e w' => e = .returned (.bool q) ∧ Ext w w' := by
  rw [← hq]; exact ints_c c n cap z c' m cap' y hn w h h'
theorem peers_q {c : Option Addr} {n cap : Nat} {za : Nat → Int} {zp : Nat → Nat} {c' : Option Addr} {m cap' : Nat} {ya : Nat → Int} {yp : Nat → Nat} {q : Bool} (hq : samePeers n za zp m ya yp = q) (hn : n < 2 ^ 62) (w : World) (h : PeersV w c n za zp) (h' : PeersV w c' m ya yp) :
    Calls Try.prog 80 #[.slice c n cap, .slice c' m cap'] w fun e w' => e = .returned (.bool q) ∧ Ext w w' := by
  rw [← hq]; exact peers_c c n cap za zp c' m cap' ya yp hn w h h'
/-- What a letter's slices hold in a world. -/
structure Rows5 where
  (av : Nat → Int) (pa : Nat → Int) (pp : Nat → Nat)
def LetAt (w : World) (l : Let) (r : Rows5) : Prop := IntsV w l.ac l.an r.av ∧ PeersV w l.pc l.pn r.pa r.pp
def sameLet (l : Let) (r : Rows5) (m : Let) (s : Rows5) : Bool :=
  l.kind == m.kind && (samePeer l.fa l.fi m.fa m.fi && ((l.req : Int) == (m.req : Int) && (eqId l.id m.id && (sameInts l.an r.av m.an s.av && ((l.done == m.done) && (samePeer l.pa l.pi m.pa m.pi && samePeers l.pn r.pa r.pp m.pn s.pa s.pp))))))
theorem same_c (l m : Let) (r s : Rows5) (hn : l.an < 2 ^ 62) (hp : l.pn < 2 ^ 62) (w : World) (hl : LetAt w l r) (hm' : LetAt w m s) :
    Calls Try.prog 43 #[letV l, letV m] w fun e w' => e = .returned (.bool (sameLet l r m s)) ∧ Ext w w' := by
  have H1 := hid hl.1
  have H2 := hid hm'.1
  have H3 := hid hl.2
  have H4 := hid hm'.2
  clear hl hm'
  unfold sameLet
  obtain ⟨q1, h1⟩ : ∃ q, (l.kind == m.kind) = q := ⟨_, rfl⟩
  obtain ⟨q2, h2⟩ : ∃ q, samePeer l.fa l.fi m.fa m.fi = q := ⟨_, rfl⟩
  obtain ⟨q3, h3⟩ : ∃ q, ((l.req : Int) == (m.req : Int)) = q := ⟨_, rfl⟩
  obtain ⟨q4, h4⟩ : ∃ q, eqId l.id m.id = q := ⟨_, rfl⟩
  obtain ⟨q5, h5⟩ : ∃ q, sameInts l.an r.av m.an s.av = q := ⟨_, rfl⟩
  obtain ⟨q6, h6⟩ : ∃ q, (l.done == m.done) = q := ⟨_, rfl⟩
  obtain ⟨q7, h7⟩ : ∃ q, samePeer l.pa l.pi m.pa m.pi = q := ⟨_, rfl⟩
  obtain ⟨q8, h8⟩ : ∃ q, samePeers l.pn r.pa r.pp m.pn s.pa s.pp = q := ⟨_, rfl⟩
  rw [h1, h2, h3, h4, h5, h6, h7, h8]
  rcases q1 with _ | _
  · go_enter Try.func43, Try.ntmps43
    have hm := Mem.refl w []
    go_wp2_with (with_reducible first | refine stAl ?_ | refine stBo ?_ | refine stLo ?_ | refine stSo ?_ | refine stBu ?_ | refine stBs ?_ | refine stMs ?_ | refine stAp ?_ | refine stCo ?_); refine Stop.go (wl_box (by rfl) rfl (letV_cells l) hm ?_); clear hm; intro b1 w1 hm; simp only [Act.put, k1, k2, k3]; (try simp only [rowOf_set, k1, k2, k3, Value.cells, Act.eval, k7, k8, k9, kA, Option.getD_some] at hm)
    go_wp2_with (with_reducible first | refine stAl ?_ | refine stBo ?_ | refine stLo ?_ | refine stSo ?_ | refine stBu ?_ | refine stBs ?_ | refine stMs ?_ | refine stAp ?_ | refine stCo ?_); refine Stop.go (wl_box (by rfl) rfl (letV_cells m) hm ?_); clear hm; intro b2 w2 hm; simp only [Act.put, k1, k2, k3]; (try simp only [rowOf_set, k1, k2, k3, Value.cells, Act.eval, k7, k8, k9, kA, Option.getD_some] at hm)
    go_wp2_with ((first | refine wpList_skip (by rfl) ?_ | (refine wlL (hm := hm) (hu := by first | exact undPeer | exact undID) (hi := by (try simp only [rowOf_size, idC_size, peerC_size, letC_size]); first | exact sizePeer | exact sizeID) (h := ?_); (try simp only [Act.put, k1, k2, k3]); (try simp only [← peerV_eq, ← idV_eq])) | (refine wlM (hm := hm) (hv := by first | exact let_id _ | exact let_from _ | exact let_peer _) (hu := by first | exact undPeer | exact undID) (hi := by (try simp only [rowOf_size, idC_size, peerC_size, letC_size]); first | exact sizePeer | exact sizeID) (h := ?_); (try simp only [Act.put, k1, k2, k3]); (try simp only [← peerV_eq, ← idV_eq])) | refine wlLC (hm := hm) (hv := by first | exact let0 _ | exact let1 _ | exact let22 _ | exact let43 _ | exact let44 _ | exact let45 _ | exact let66 _ | rfl) (hu := by first | exact undInt | exact undU64 | exact undBool | exact undIntS | exact undPeerS) (h := ?_) | (refine yS (hm := hm) (hi := by (try simp only [rowOf_size, idC_size, peerC_size, letC_size]); first | exact sizePeer | exact sizeID) (h := ?_); clear hm; intro w1 hm; (try simp only [rowOf_set, k1, k2, k3, Value.cells, Act.eval, k7, k8, k9, kA, Option.getD_some] at hm)) | (refine wlSC (hm := hm) (hi := by first | exact sizeInt | exact sizeU64 | exact sizeBool | exact sizeIntS | exact sizePeerS) (ho := by first | decide | (simp only [rowOf_size, idC_size, peerC_size, letC_size]; omega) | (simp; done)) (h := ?_); clear hm; intro w1 hm; (try simp only [rowOf_set, k1, k2, k3, Value.cells, Act.eval, k7, k8, k9, kA, Option.getD_some] at hm)) | (refine wlA (hz := by first | exact zeroPeer | exact zeroID) (hm := hm) (h := ?_); clear hm; intro b1 w1 hm; (try simp only [rowOf_set, k1, k2, k3, Value.cells, Act.eval, k7, k8, k9, kA, Option.getD_some] at hm)) | (refine wl_box (by rfl) rfl (by first | exact peerV_cells _ _ | exact letV_cells _ | exact idV_cells _ | rfl) hm ?_; clear hm; intro b1 w1 hm) | (go_at_call 79; refine (ints_q h5 hn _ (H1.out.old hm) (H2.out.old hm)).mono ?_; rintro e w1 ⟨rfl, hx⟩; replace hm := hm.call hx; clear hx) | (go_at_call 80; refine (peers_q h8 hp _ (H3.out.old hm) (H4.out.old hm)).mono ?_; rintro e w1 ⟨rfl, hx⟩; replace hm := hm.call hx; clear hx) | (with_reducible first | refine stBs ?_ | refine stMs ?_ | refine stAp ?_ | refine stCo ?_)); (try simp only [k4, k5, k6, Act.put, k1, k2, k3]))
    go_ret
    exact ⟨rfl, hm.ext⟩
  rcases q2 with _ | _
  · go_enter Try.func43, Try.ntmps43
    have hm := Mem.refl w []
    go_wp2_with (with_reducible first | refine stAl ?_ | refine stBo ?_ | refine stLo ?_ | refine stSo ?_ | refine stBu ?_ | refine stBs ?_ | refine stMs ?_ | refine stAp ?_ | refine stCo ?_); refine Stop.go (wl_box (by rfl) rfl (letV_cells l) hm ?_); clear hm; intro b1 w1 hm; simp only [Act.put, k1, k2, k3]; (try simp only [rowOf_set, k1, k2, k3, Value.cells, Act.eval, k7, k8, k9, kA, Option.getD_some] at hm)
    go_wp2_with (with_reducible first | refine stAl ?_ | refine stBo ?_ | refine stLo ?_ | refine stSo ?_ | refine stBu ?_ | refine stBs ?_ | refine stMs ?_ | refine stAp ?_ | refine stCo ?_); refine Stop.go (wl_box (by rfl) rfl (letV_cells m) hm ?_); clear hm; intro b2 w2 hm; simp only [Act.put, k1, k2, k3]; (try simp only [rowOf_set, k1, k2, k3, Value.cells, Act.eval, k7, k8, k9, kA, Option.getD_some] at hm)
    go_wp2_with ((first | refine wpList_skip (by rfl) ?_ | (refine wlL (hm := hm) (hu := by first | exact undPeer | exact undID) (hi := by (try simp only [rowOf_size, idC_size, peerC_size, letC_size]); first | exact sizePeer | exact sizeID) (h := ?_); (try simp only [Act.put, k1, k2, k3]); (try simp only [← peerV_eq, ← idV_eq])) | (refine wlM (hm := hm) (hv := by first | exact let_id _ | exact let_from _ | exact let_peer _) (hu := by first | exact undPeer | exact undID) (hi := by (try simp only [rowOf_size, idC_size, peerC_size, letC_size]); first | exact sizePeer | exact sizeID) (h := ?_); (try simp only [Act.put, k1, k2, k3]); (try simp only [← peerV_eq, ← idV_eq])) | refine wlLC (hm := hm) (hv := by first | exact let0 _ | exact let1 _ | exact let22 _ | exact let43 _ | exact let44 _ | exact let45 _ | exact let66 _ | rfl) (hu := by first | exact undInt | exact undU64 | exact undBool | exact undIntS | exact undPeerS) (h := ?_) | (refine yS (hm := hm) (hi := by (try simp only [rowOf_size, idC_size, peerC_size, letC_size]); first | exact sizePeer | exact sizeID) (h := ?_); clear hm; intro w1 hm; (try simp only [rowOf_set, k1, k2, k3, Value.cells, Act.eval, k7, k8, k9, kA, Option.getD_some] at hm)) | (refine wlSC (hm := hm) (hi := by first | exact sizeInt | exact sizeU64 | exact sizeBool | exact sizeIntS | exact sizePeerS) (ho := by first | decide | (simp only [rowOf_size, idC_size, peerC_size, letC_size]; omega) | (simp; done)) (h := ?_); clear hm; intro w1 hm; (try simp only [rowOf_set, k1, k2, k3, Value.cells, Act.eval, k7, k8, k9, kA, Option.getD_some] at hm)) | (refine wlA (hz := by first | exact zeroPeer | exact zeroID) (hm := hm) (h := ?_); clear hm; intro b1 w1 hm; (try simp only [rowOf_set, k1, k2, k3, Value.cells, Act.eval, k7, k8, k9, kA, Option.getD_some] at hm)) | (refine wl_box (by rfl) rfl (by first | exact peerV_cells _ _ | exact letV_cells _ | exact idV_cells _ | rfl) hm ?_; clear hm; intro b1 w1 hm) | (go_at_call 79; refine (ints_q h5 hn _ (H1.out.old hm) (H2.out.old hm)).mono ?_; rintro e w1 ⟨rfl, hx⟩; replace hm := hm.call hx; clear hx) | (go_at_call 80; refine (peers_q h8 hp _ (H3.out.old hm) (H4.out.old hm)).mono ?_; rintro e w1 ⟨rfl, hx⟩; replace hm := hm.call hx; clear hx) | (with_reducible first | refine stBs ?_ | refine stMs ?_ | refine stAp ?_ | refine stCo ?_)); (try simp only [k4, k5, k6, Act.put, k1, k2, k3]))
    go_ret
    exact ⟨rfl, hm.ext⟩
  rcases q3 with _ | _
  · go_enter Try.func43, Try.ntmps43
    have hm := Mem.refl w []
    go_wp2_with (with_reducible first | refine stAl ?_ | refine stBo ?_ | refine stLo ?_ | refine stSo ?_ | refine stBu ?_ | refine stBs ?_ | refine stMs ?_ | refine stAp ?_ | refine stCo ?_); refine Stop.go (wl_box (by rfl) rfl (letV_cells l) hm ?_); clear hm; intro b1 w1 hm; simp only [Act.put, k1, k2, k3]; (try simp only [rowOf_set, k1, k2, k3, Value.cells, Act.eval, k7, k8, k9, kA, Option.getD_some] at hm)
    go_wp2_with (with_reducible first | refine stAl ?_ | refine stBo ?_ | refine stLo ?_ | refine stSo ?_ | refine stBu ?_ | refine stBs ?_ | refine stMs ?_ | refine stAp ?_ | refine stCo ?_); refine Stop.go (wl_box (by rfl) rfl (letV_cells m) hm ?_); clear hm; intro b2 w2 hm; simp only [Act.put, k1, k2, k3]; (try simp only [rowOf_set, k1, k2, k3, Value.cells, Act.eval, k7, k8, k9, kA, Option.getD_some] at hm)
    go_wp2_with ((first | refine wpList_skip (by rfl) ?_ | (refine wlL (hm := hm) (hu := by first | exact undPeer | exact undID) (hi := by (try simp only [rowOf_size, idC_size, peerC_size, letC_size]); first | exact sizePeer | exact sizeID) (h := ?_); (try simp only [Act.put, k1, k2, k3]); (try simp only [← peerV_eq, ← idV_eq])) | (refine wlM (hm := hm) (hv := by first | exact let_id _ | exact let_from _ | exact let_peer _) (hu := by first | exact undPeer | exact undID) (hi := by (try simp only [rowOf_size, idC_size, peerC_size, letC_size]); first | exact sizePeer | exact sizeID) (h := ?_); (try simp only [Act.put, k1, k2, k3]); (try simp only [← peerV_eq, ← idV_eq])) | refine wlLC (hm := hm) (hv := by first | exact let0 _ | exact let1 _ | exact let22 _ | exact let43 _ | exact let44 _ | exact let45 _ | exact let66 _ | rfl) (hu := by first | exact undInt | exact undU64 | exact undBool | exact undIntS | exact undPeerS) (h := ?_) | (refine yS (hm := hm) (hi := by (try simp only [rowOf_size, idC_size, peerC_size, letC_size]); first | exact sizePeer | exact sizeID) (h := ?_); clear hm; intro w1 hm; (try simp only [rowOf_set, k1, k2, k3, Value.cells, Act.eval, k7, k8, k9, kA, Option.getD_some] at hm)) | (refine wlSC (hm := hm) (hi := by first | exact sizeInt | exact sizeU64 | exact sizeBool | exact sizeIntS | exact sizePeerS) (ho := by first | decide | (simp only [rowOf_size, idC_size, peerC_size, letC_size]; omega) | (simp; done)) (h := ?_); clear hm; intro w1 hm; (try simp only [rowOf_set, k1, k2, k3, Value.cells, Act.eval, k7, k8, k9, kA, Option.getD_some] at hm)) | (refine wlA (hz := by first | exact zeroPeer | exact zeroID) (hm := hm) (h := ?_); clear hm; intro b1 w1 hm; (try simp only [rowOf_set, k1, k2, k3, Value.cells, Act.eval, k7, k8, k9, kA, Option.getD_some] at hm)) | (refine wl_box (by rfl) rfl (by first | exact peerV_cells _ _ | exact letV_cells _ | exact idV_cells _ | rfl) hm ?_; clear hm; intro b1 w1 hm) | (go_at_call 79; refine (ints_q h5 hn _ (H1.out.old hm) (H2.out.old hm)).mono ?_; rintro e w1 ⟨rfl, hx⟩; replace hm := hm.call hx; clear hx) | (go_at_call 80; refine (peers_q h8 hp _ (H3.out.old hm) (H4.out.old hm)).mono ?_; rintro e w1 ⟨rfl, hx⟩; replace hm := hm.call hx; clear hx) | (with_reducible first | refine stBs ?_ | refine stMs ?_ | refine stAp ?_ | refine stCo ?_)); (try simp only [k4, k5, k6, Act.put, k1, k2, k3]))
    go_ret
    exact ⟨rfl, hm.ext⟩
  rcases q4 with _ | _
  · go_enter Try.func43, Try.ntmps43
    have hm := Mem.refl w []
    go_wp2_with (with_reducible first | refine stAl ?_ | refine stBo ?_ | refine stLo ?_ | refine stSo ?_ | refine stBu ?_ | refine stBs ?_ | refine stMs ?_ | refine stAp ?_ | refine stCo ?_); refine Stop.go (wl_box (by rfl) rfl (letV_cells l) hm ?_); clear hm; intro b1 w1 hm; simp only [Act.put, k1, k2, k3]; (try simp only [rowOf_set, k1, k2, k3, Value.cells, Act.eval, k7, k8, k9, kA, Option.getD_some] at hm)
    go_wp2_with (with_reducible first | refine stAl ?_ | refine stBo ?_ | refine stLo ?_ | refine stSo ?_ | refine stBu ?_ | refine stBs ?_ | refine stMs ?_ | refine stAp ?_ | refine stCo ?_); refine Stop.go (wl_box (by rfl) rfl (letV_cells m) hm ?_); clear hm; intro b2 w2 hm; simp only [Act.put, k1, k2, k3]; (try simp only [rowOf_set, k1, k2, k3, Value.cells, Act.eval, k7, k8, k9, kA, Option.getD_some] at hm)
    go_wp2_with ((first | refine wpList_skip (by rfl) ?_ | (refine wlL (hm := hm) (hu := by first | exact undPeer | exact undID) (hi := by (try simp only [rowOf_size, idC_size, peerC_size, letC_size]); first | exact sizePeer | exact sizeID) (h := ?_); (try simp only [Act.put, k1, k2, k3]); (try simp only [← peerV_eq, ← idV_eq])) | (refine wlM (hm := hm) (hv := by first | exact let_id _ | exact let_from _ | exact let_peer _) (hu := by first | exact undPeer | exact undID) (hi := by (try simp only [rowOf_size, idC_size, peerC_size, letC_size]); first | exact sizePeer | exact sizeID) (h := ?_); (try simp only [Act.put, k1, k2, k3]); (try simp only [← peerV_eq, ← idV_eq])) | refine wlLC (hm := hm) (hv := by first | exact let0 _ | exact let1 _ | exact let22 _ | exact let43 _ | exact let44 _ | exact let45 _ | exact let66 _ | rfl) (hu := by first | exact undInt | exact undU64 | exact undBool | exact undIntS | exact undPeerS) (h := ?_) | (refine yS (hm := hm) (hi := by (try simp only [rowOf_size, idC_size, peerC_size, letC_size]); first | exact sizePeer | exact sizeID) (h := ?_); clear hm; intro w1 hm; (try simp only [rowOf_set, k1, k2, k3, Value.cells, Act.eval, k7, k8, k9, kA, Option.getD_some] at hm)) | (refine wlSC (hm := hm) (hi := by first | exact sizeInt | exact sizeU64 | exact sizeBool | exact sizeIntS | exact sizePeerS) (ho := by first | decide | (simp only [rowOf_size, idC_size, peerC_size, letC_size]; omega) | (simp; done)) (h := ?_); clear hm; intro w1 hm; (try simp only [rowOf_set, k1, k2, k3, Value.cells, Act.eval, k7, k8, k9, kA, Option.getD_some] at hm)) | (refine wlA (hz := by first | exact zeroPeer | exact zeroID) (hm := hm) (h := ?_); clear hm; intro b1 w1 hm; (try simp only [rowOf_set, k1, k2, k3, Value.cells, Act.eval, k7, k8, k9, kA, Option.getD_some] at hm)) | (refine wl_box (by rfl) rfl (by first | exact peerV_cells _ _ | exact letV_cells _ | exact idV_cells _ | rfl) hm ?_; clear hm; intro b1 w1 hm) | (go_at_call 79; refine (ints_q h5 hn _ (H1.out.old hm) (H2.out.old hm)).mono ?_; rintro e w1 ⟨rfl, hx⟩; replace hm := hm.call hx; clear hx) | (go_at_call 80; refine (peers_q h8 hp _ (H3.out.old hm) (H4.out.old hm)).mono ?_; rintro e w1 ⟨rfl, hx⟩; replace hm := hm.call hx; clear hx) | (with_reducible first | refine stBs ?_ | refine stMs ?_ | refine stAp ?_ | refine stCo ?_)); (try simp only [k4, k5, k6, Act.put, k1, k2, k3]))
    go_ret
    exact ⟨rfl, hm.ext⟩
  rcases q5 with _ | _
  · go_enter Try.func43, Try.ntmps43
    have hm := Mem.refl w []
    go_wp2_with (with_reducible first | refine stAl ?_ | refine stBo ?_ | refine stLo ?_ | refine stSo ?_ | refine stBu ?_ | refine stBs ?_ | refine stMs ?_ | refine stAp ?_ | refine stCo ?_); refine Stop.go (wl_box (by rfl) rfl (letV_cells l) hm ?_); clear hm; intro b1 w1 hm; simp only [Act.put, k1, k2, k3]; (try simp only [rowOf_set, k1, k2, k3, Value.cells, Act.eval, k7, k8, k9, kA, Option.getD_some] at hm)
    go_wp2_with (with_reducible first | refine stAl ?_ | refine stBo ?_ | refine stLo ?_ | refine stSo ?_ | refine stBu ?_ | refine stBs ?_ | refine stMs ?_ | refine stAp ?_ | refine stCo ?_); refine Stop.go (wl_box (by rfl) rfl (letV_cells m) hm ?_); clear hm; intro b2 w2 hm; simp only [Act.put, k1, k2, k3]; (try simp only [rowOf_set, k1, k2, k3, Value.cells, Act.eval, k7, k8, k9, kA, Option.getD_some] at hm)
    go_wp2_with ((first | refine wpList_skip (by rfl) ?_ | (refine wlL (hm := hm) (hu := by first | exact undPeer | exact undID) (hi := by (try simp only [rowOf_size, idC_size, peerC_size, letC_size]); first | exact sizePeer | exact sizeID) (h := ?_); (try simp only [Act.put, k1, k2, k3]); (try simp only [← peerV_eq, ← idV_eq])) | (refine wlM (hm := hm) (hv := by first | exact let_id _ | exact let_from _ | exact let_peer _) (hu := by first | exact undPeer | exact undID) (hi := by (try simp only [rowOf_size, idC_size, peerC_size, letC_size]); first | exact sizePeer | exact sizeID) (h := ?_); (try simp only [Act.put, k1, k2, k3]); (try simp only [← peerV_eq, ← idV_eq])) | refine wlLC (hm := hm) (hv := by first | exact let0 _ | exact let1 _ | exact let22 _ | exact let43 _ | exact let44 _ | exact let45 _ | exact let66 _ | rfl) (hu := by first | exact undInt | exact undU64 | exact undBool | exact undIntS | exact undPeerS) (h := ?_) | (refine yS (hm := hm) (hi := by (try simp only [rowOf_size, idC_size, peerC_size, letC_size]); first | exact sizePeer | exact sizeID) (h := ?_); clear hm; intro w1 hm; (try simp only [rowOf_set, k1, k2, k3, Value.cells, Act.eval, k7, k8, k9, kA, Option.getD_some] at hm)) | (refine wlSC (hm := hm) (hi := by first | exact sizeInt | exact sizeU64 | exact sizeBool | exact sizeIntS | exact sizePeerS) (ho := by first | decide | (simp only [rowOf_size, idC_size, peerC_size, letC_size]; omega) | (simp; done)) (h := ?_); clear hm; intro w1 hm; (try simp only [rowOf_set, k1, k2, k3, Value.cells, Act.eval, k7, k8, k9, kA, Option.getD_some] at hm)) | (refine wlA (hz := by first | exact zeroPeer | exact zeroID) (hm := hm) (h := ?_); clear hm; intro b1 w1 hm; (try simp only [rowOf_set, k1, k2, k3, Value.cells, Act.eval, k7, k8, k9, kA, Option.getD_some] at hm)) | (refine wl_box (by rfl) rfl (by first | exact peerV_cells _ _ | exact letV_cells _ | exact idV_cells _ | rfl) hm ?_; clear hm; intro b1 w1 hm) | (go_at_call 79; refine (ints_q h5 hn _ (H1.out.old hm) (H2.out.old hm)).mono ?_; rintro e w1 ⟨rfl, hx⟩; replace hm := hm.call hx; clear hx) | (go_at_call 80; refine (peers_q h8 hp _ (H3.out.old hm) (H4.out.old hm)).mono ?_; rintro e w1 ⟨rfl, hx⟩; replace hm := hm.call hx; clear hx) | (with_reducible first | refine stBs ?_ | refine stMs ?_ | refine stAp ?_ | refine stCo ?_)); (try simp only [k4, k5, k6, Act.put, k1, k2, k3]))
    go_ret
    exact ⟨rfl, hm.ext⟩
  rcases q6 with _ | _
  · go_enter Try.func43, Try.ntmps43
    have hm := Mem.refl w []
    go_wp2_with (with_reducible first | refine stAl ?_ | refine stBo ?_ | refine stLo ?_ | refine stSo ?_ | refine stBu ?_ | refine stBs ?_ | refine stMs ?_ | refine stAp ?_ | refine stCo ?_); refine Stop.go (wl_box (by rfl) rfl (letV_cells l) hm ?_); clear hm; intro b1 w1 hm; simp only [Act.put, k1, k2, k3]; (try simp only [rowOf_set, k1, k2, k3, Value.cells, Act.eval, k7, k8, k9, kA, Option.getD_some] at hm)
    go_wp2_with (with_reducible first | refine stAl ?_ | refine stBo ?_ | refine stLo ?_ | refine stSo ?_ | refine stBu ?_ | refine stBs ?_ | refine stMs ?_ | refine stAp ?_ | refine stCo ?_); refine Stop.go (wl_box (by rfl) rfl (letV_cells m) hm ?_); clear hm; intro b2 w2 hm; simp only [Act.put, k1, k2, k3]; (try simp only [rowOf_set, k1, k2, k3, Value.cells, Act.eval, k7, k8, k9, kA, Option.getD_some] at hm)
    go_wp2_with ((first | refine wpList_skip (by rfl) ?_ | (refine wlL (hm := hm) (hu := by first | exact undPeer | exact undID) (hi := by (try simp only [rowOf_size, idC_size, peerC_size, letC_size]); first | exact sizePeer | exact sizeID) (h := ?_); (try simp only [Act.put, k1, k2, k3]); (try simp only [← peerV_eq, ← idV_eq])) | (refine wlM (hm := hm) (hv := by first | exact let_id _ | exact let_from _ | exact let_peer _) (hu := by first | exact undPeer | exact undID) (hi := by (try simp only [rowOf_size, idC_size, peerC_size, letC_size]); first | exact sizePeer | exact sizeID) (h := ?_); (try simp only [Act.put, k1, k2, k3]); (try simp only [← peerV_eq, ← idV_eq])) | refine wlLC (hm := hm) (hv := by first | exact let0 _ | exact let1 _ | exact let22 _ | exact let43 _ | exact let44 _ | exact let45 _ | exact let66 _ | rfl) (hu := by first | exact undInt | exact undU64 | exact undBool | exact undIntS | exact undPeerS) (h := ?_) | (refine yS (hm := hm) (hi := by (try simp only [rowOf_size, idC_size, peerC_size, letC_size]); first | exact sizePeer | exact sizeID) (h := ?_); clear hm; intro w1 hm; (try simp only [rowOf_set, k1, k2, k3, Value.cells, Act.eval, k7, k8, k9, kA, Option.getD_some] at hm)) | (refine wlSC (hm := hm) (hi := by first | exact sizeInt | exact sizeU64 | exact sizeBool | exact sizeIntS | exact sizePeerS) (ho := by first | decide | (simp only [rowOf_size, idC_size, peerC_size, letC_size]; omega) | (simp; done)) (h := ?_); clear hm; intro w1 hm; (try simp only [rowOf_set, k1, k2, k3, Value.cells, Act.eval, k7, k8, k9, kA, Option.getD_some] at hm)) | (refine wlA (hz := by first | exact zeroPeer | exact zeroID) (hm := hm) (h := ?_); clear hm; intro b1 w1 hm; (try simp only [rowOf_set, k1, k2, k3, Value.cells, Act.eval, k7, k8, k9, kA, Option.getD_some] at hm)) | (refine wl_box (by rfl) rfl (by first | exact peerV_cells _ _ | exact letV_cells _ | exact idV_cells _ | rfl) hm ?_; clear hm; intro b1 w1 hm) | (go_at_call 79; refine (ints_q h5 hn _ (H1.out.old hm) (H2.out.old hm)).mono ?_; rintro e w1 ⟨rfl, hx⟩; replace hm := hm.call hx; clear hx) | (go_at_call 80; refine (peers_q h8 hp _ (H3.out.old hm) (H4.out.old hm)).mono ?_; rintro e w1 ⟨rfl, hx⟩; replace hm := hm.call hx; clear hx) | (with_reducible first | refine stBs ?_ | refine stMs ?_ | refine stAp ?_ | refine stCo ?_)); (try simp only [k4, k5, k6, Act.put, k1, k2, k3]))
    go_ret
    exact ⟨rfl, hm.ext⟩
  rcases q7 with _ | _
  · go_enter Try.func43, Try.ntmps43
    have hm := Mem.refl w []
    go_wp2_with (with_reducible first | refine stAl ?_ | refine stBo ?_ | refine stLo ?_ | refine stSo ?_ | refine stBu ?_ | refine stBs ?_ | refine stMs ?_ | refine stAp ?_ | refine stCo ?_); refine Stop.go (wl_box (by rfl) rfl (letV_cells l) hm ?_); clear hm; intro b1 w1 hm; simp only [Act.put, k1, k2, k3]; (try simp only [rowOf_set, k1, k2, k3, Value.cells, Act.eval, k7, k8, k9, kA, Option.getD_some] at hm)
    go_wp2_with (with_reducible first | refine stAl ?_ | refine stBo ?_ | refine stLo ?_ | refine stSo ?_ | refine stBu ?_ | refine stBs ?_ | refine stMs ?_ | refine stAp ?_ | refine stCo ?_); refine Stop.go (wl_box (by rfl) rfl (letV_cells m) hm ?_); clear hm; intro b2 w2 hm; simp only [Act.put, k1, k2, k3]; (try simp only [rowOf_set, k1, k2, k3, Value.cells, Act.eval, k7, k8, k9, kA, Option.getD_some] at hm)
    go_wp2_with ((first | refine wpList_skip (by rfl) ?_ | (refine wlL (hm := hm) (hu := by first | exact undPeer | exact undID) (hi := by (try simp only [rowOf_size, idC_size, peerC_size, letC_size]); first | exact sizePeer | exact sizeID) (h := ?_); (try simp only [Act.put, k1, k2, k3]); (try simp only [← peerV_eq, ← idV_eq])) | (refine wlM (hm := hm) (hv := by first | exact let_id _ | exact let_from _ | exact let_peer _) (hu := by first | exact undPeer | exact undID) (hi := by (try simp only [rowOf_size, idC_size, peerC_size, letC_size]); first | exact sizePeer | exact sizeID) (h := ?_); (try simp only [Act.put, k1, k2, k3]); (try simp only [← peerV_eq, ← idV_eq])) | refine wlLC (hm := hm) (hv := by first | exact let0 _ | exact let1 _ | exact let22 _ | exact let43 _ | exact let44 _ | exact let45 _ | exact let66 _ | rfl) (hu := by first | exact undInt | exact undU64 | exact undBool | exact undIntS | exact undPeerS) (h := ?_) | (refine yS (hm := hm) (hi := by (try simp only [rowOf_size, idC_size, peerC_size, letC_size]); first | exact sizePeer | exact sizeID) (h := ?_); clear hm; intro w1 hm; (try simp only [rowOf_set, k1, k2, k3, Value.cells, Act.eval, k7, k8, k9, kA, Option.getD_some] at hm)) | (refine wlSC (hm := hm) (hi := by first | exact sizeInt | exact sizeU64 | exact sizeBool | exact sizeIntS | exact sizePeerS) (ho := by first | decide | (simp only [rowOf_size, idC_size, peerC_size, letC_size]; omega) | (simp; done)) (h := ?_); clear hm; intro w1 hm; (try simp only [rowOf_set, k1, k2, k3, Value.cells, Act.eval, k7, k8, k9, kA, Option.getD_some] at hm)) | (refine wlA (hz := by first | exact zeroPeer | exact zeroID) (hm := hm) (h := ?_); clear hm; intro b1 w1 hm; (try simp only [rowOf_set, k1, k2, k3, Value.cells, Act.eval, k7, k8, k9, kA, Option.getD_some] at hm)) | (refine wl_box (by rfl) rfl (by first | exact peerV_cells _ _ | exact letV_cells _ | exact idV_cells _ | rfl) hm ?_; clear hm; intro b1 w1 hm) | (go_at_call 79; refine (ints_q h5 hn _ (H1.out.old hm) (H2.out.old hm)).mono ?_; rintro e w1 ⟨rfl, hx⟩; replace hm := hm.call hx; clear hx) | (go_at_call 80; refine (peers_q h8 hp _ (H3.out.old hm) (H4.out.old hm)).mono ?_; rintro e w1 ⟨rfl, hx⟩; replace hm := hm.call hx; clear hx) | (with_reducible first | refine stBs ?_ | refine stMs ?_ | refine stAp ?_ | refine stCo ?_)); (try simp only [k4, k5, k6, Act.put, k1, k2, k3]))
    go_ret
    exact ⟨rfl, hm.ext⟩
  rcases q8 with _ | _
  · go_enter Try.func43, Try.ntmps43
    have hm := Mem.refl w []
    go_wp2_with (with_reducible first | refine stAl ?_ | refine stBo ?_ | refine stLo ?_ | refine stSo ?_ | refine stBu ?_ | refine stBs ?_ | refine stMs ?_ | refine stAp ?_ | refine stCo ?_); refine Stop.go (wl_box (by rfl) rfl (letV_cells l) hm ?_); clear hm; intro b1 w1 hm; simp only [Act.put, k1, k2, k3]; (try simp only [rowOf_set, k1, k2, k3, Value.cells, Act.eval, k7, k8, k9, kA, Option.getD_some] at hm)
    go_wp2_with (with_reducible first | refine stAl ?_ | refine stBo ?_ | refine stLo ?_ | refine stSo ?_ | refine stBu ?_ | refine stBs ?_ | refine stMs ?_ | refine stAp ?_ | refine stCo ?_); refine Stop.go (wl_box (by rfl) rfl (letV_cells m) hm ?_); clear hm; intro b2 w2 hm; simp only [Act.put, k1, k2, k3]; (try simp only [rowOf_set, k1, k2, k3, Value.cells, Act.eval, k7, k8, k9, kA, Option.getD_some] at hm)
    go_wp2_with ((first | refine wpList_skip (by rfl) ?_ | (refine wlL (hm := hm) (hu := by first | exact undPeer | exact undID) (hi := by (try simp only [rowOf_size, idC_size, peerC_size, letC_size]); first | exact sizePeer | exact sizeID) (h := ?_); (try simp only [Act.put, k1, k2, k3]); (try simp only [← peerV_eq, ← idV_eq])) | (refine wlM (hm := hm) (hv := by first | exact let_id _ | exact let_from _ | exact let_peer _) (hu := by first | exact undPeer | exact undID) (hi := by (try simp only [rowOf_size, idC_size, peerC_size, letC_size]); first | exact sizePeer | exact sizeID) (h := ?_); (try simp only [Act.put, k1, k2, k3]); (try simp only [← peerV_eq, ← idV_eq])) | refine wlLC (hm := hm) (hv := by first | exact let0 _ | exact let1 _ | exact let22 _ | exact let43 _ | exact let44 _ | exact let45 _ | exact let66 _ | rfl) (hu := by first | exact undInt | exact undU64 | exact undBool | exact undIntS | exact undPeerS) (h := ?_) | (refine yS (hm := hm) (hi := by (try simp only [rowOf_size, idC_size, peerC_size, letC_size]); first | exact sizePeer | exact sizeID) (h := ?_); clear hm; intro w1 hm; (try simp only [rowOf_set, k1, k2, k3, Value.cells, Act.eval, k7, k8, k9, kA, Option.getD_some] at hm)) | (refine wlSC (hm := hm) (hi := by first | exact sizeInt | exact sizeU64 | exact sizeBool | exact sizeIntS | exact sizePeerS) (ho := by first | decide | (simp only [rowOf_size, idC_size, peerC_size, letC_size]; omega) | (simp; done)) (h := ?_); clear hm; intro w1 hm; (try simp only [rowOf_set, k1, k2, k3, Value.cells, Act.eval, k7, k8, k9, kA, Option.getD_some] at hm)) | (refine wlA (hz := by first | exact zeroPeer | exact zeroID) (hm := hm) (h := ?_); clear hm; intro b1 w1 hm; (try simp only [rowOf_set, k1, k2, k3, Value.cells, Act.eval, k7, k8, k9, kA, Option.getD_some] at hm)) | (refine wl_box (by rfl) rfl (by first | exact peerV_cells _ _ | exact letV_cells _ | exact idV_cells _ | rfl) hm ?_; clear hm; intro b1 w1 hm) | (go_at_call 79; refine (ints_q h5 hn _ (H1.out.old hm) (H2.out.old hm)).mono ?_; rintro e w1 ⟨rfl, hx⟩; replace hm := hm.call hx; clear hx) | (go_at_call 80; refine (peers_q h8 hp _ (H3.out.old hm) (H4.out.old hm)).mono ?_; rintro e w1 ⟨rfl, hx⟩; replace hm := hm.call hx; clear hx) | (with_reducible first | refine stBs ?_ | refine stMs ?_ | refine stAp ?_ | refine stCo ?_)); (try simp only [k4, k5, k6, Act.put, k1, k2, k3]))
    go_ret
    exact ⟨rfl, hm.ext⟩
  · go_enter Try.func43, Try.ntmps43
    have hm := Mem.refl w []
    go_wp2_with (with_reducible first | refine stAl ?_ | refine stBo ?_ | refine stLo ?_ | refine stSo ?_ | refine stBu ?_ | refine stBs ?_ | refine stMs ?_ | refine stAp ?_ | refine stCo ?_); refine Stop.go (wl_box (by rfl) rfl (letV_cells l) hm ?_); clear hm; intro b1 w1 hm; simp only [Act.put, k1, k2, k3]; (try simp only [rowOf_set, k1, k2, k3, Value.cells, Act.eval, k7, k8, k9, kA, Option.getD_some] at hm)
    go_wp2_with (with_reducible first | refine stAl ?_ | refine stBo ?_ | refine stLo ?_ | refine stSo ?_ | refine stBu ?_ | refine stBs ?_ | refine stMs ?_ | refine stAp ?_ | refine stCo ?_); refine Stop.go (wl_box (by rfl) rfl (letV_cells m) hm ?_); clear hm; intro b2 w2 hm; simp only [Act.put, k1, k2, k3]; (try simp only [rowOf_set, k1, k2, k3, Value.cells, Act.eval, k7, k8, k9, kA, Option.getD_some] at hm)
    go_wp2_with ((first | refine wpList_skip (by rfl) ?_ | (refine wlL (hm := hm) (hu := by first | exact undPeer | exact undID) (hi := by (try simp only [rowOf_size, idC_size, peerC_size, letC_size]); first | exact sizePeer | exact sizeID) (h := ?_); (try simp only [Act.put, k1, k2, k3]); (try simp only [← peerV_eq, ← idV_eq])) | (refine wlM (hm := hm) (hv := by first | exact let_id _ | exact let_from _ | exact let_peer _) (hu := by first | exact undPeer | exact undID) (hi := by (try simp only [rowOf_size, idC_size, peerC_size, letC_size]); first | exact sizePeer | exact sizeID) (h := ?_); (try simp only [Act.put, k1, k2, k3]); (try simp only [← peerV_eq, ← idV_eq])) | refine wlLC (hm := hm) (hv := by first | exact let0 _ | exact let1 _ | exact let22 _ | exact let43 _ | exact let44 _ | exact let45 _ | exact let66 _ | rfl) (hu := by first | exact undInt | exact undU64 | exact undBool | exact undIntS | exact undPeerS) (h := ?_) | (refine yS (hm := hm) (hi := by (try simp only [rowOf_size, idC_size, peerC_size, letC_size]); first | exact sizePeer | exact sizeID) (h := ?_); clear hm; intro w1 hm; (try simp only [rowOf_set, k1, k2, k3, Value.cells, Act.eval, k7, k8, k9, kA, Option.getD_some] at hm)) | (refine wlSC (hm := hm) (hi := by first | exact sizeInt | exact sizeU64 | exact sizeBool | exact sizeIntS | exact sizePeerS) (ho := by first | decide | (simp only [rowOf_size, idC_size, peerC_size, letC_size]; omega) | (simp; done)) (h := ?_); clear hm; intro w1 hm; (try simp only [rowOf_set, k1, k2, k3, Value.cells, Act.eval, k7, k8, k9, kA, Option.getD_some] at hm)) | (refine wlA (hz := by first | exact zeroPeer | exact zeroID) (hm := hm) (h := ?_); clear hm; intro b1 w1 hm; (try simp only [rowOf_set, k1, k2, k3, Value.cells, Act.eval, k7, k8, k9, kA, Option.getD_some] at hm)) | (refine wl_box (by rfl) rfl (by first | exact peerV_cells _ _ | exact letV_cells _ | exact idV_cells _ | rfl) hm ?_; clear hm; intro b1 w1 hm) | (go_at_call 79; refine (ints_q h5 hn _ (H1.out.old hm) (H2.out.old hm)).mono ?_; rintro e w1 ⟨rfl, hx⟩; replace hm := hm.call hx; clear hx) | (go_at_call 80; refine (peers_q h8 hp _ (H3.out.old hm) (H4.out.old hm)).mono ?_; rintro e w1 ⟨rfl, hx⟩; replace hm := hm.call hx; clear hx) | (with_reducible first | refine stBs ?_ | refine stMs ?_ | refine stAp ?_ | refine stCo ?_)); (try simp only [k4, k5, k6, Act.put, k1, k2, k3]))
    go_ret
    exact ⟨rfl, hm.ext⟩
end Go.Proofs.Ytijkmbebfodhdaa

/- (LetO) -/
namespace Go.Proofs.Ytijkmbebfodhdaa
open Go.RowKit
set_option linter.unusedSimpArgs false
set_option linter.unusedVariables false
set_option maxRecDepth 20000
@[go_sem] theorem run_neqID (a b : Nat) (w : World) : (binOp .neq 24 (idV a) (idV b)).run Try.prog w = .ok (.bool (!eqId a b)) w := by
  rw [idV_eq, idV_eq, run_neq_struct, run_equalID]; rfl
theorem ld_build {P : Program} {a : Act} {w : World} {dst : Option Tmp} {ty : TypeId} {pos : String} {aft : Array Edge} {gd : Option (Nat × Bool)} {T : TypeId} {parts : Array (Nat × Operand)} {ps : List (Nat × Value)} {cells : Array Value}
    (hb : P.built T ps = some cells) (hp : (parts.map fun (i, x) => (i, a.eval x)).toList = ps) : (execOp a.eval ⟨dst, .build T parts, ty, pos, aft, gd⟩).run P w = .ok (.value (.agg cells)) w := by
  unfold execOp
  simp only [Sem.run_bind, run_build w T _ cells (hp ▸ hb), Result.andThen_ok, Sem.run_pure]
end Go.Proofs.Ytijkmbebfodhdaa

/- (LetG) -/
namespace Go.Proofs.Ytijkmbebfodhdaa
open Go.RowKit
set_option linter.unusedSimpArgs false
set_option linter.unusedVariables false
set_option maxHeartbeats 1000000
set_option maxRecDepth 20000
theorem undRdP : Try.prog.underlying 41 = some (.pointer 76) := by kernel_rfl
theorem sizeRdP : (Try.prog.info? 41).map (·.size) = some 1 := by kernel_rfl
noncomputable def rdFields : Array Field := match Try.prog.underlying 103 with | some (.struct fs) => fs | _ => #[]
theorem undRd : Try.prog.underlying 103 = some (.struct rdFields) := by kernel_rfl
theorem sizeRd : (Try.prog.info? 103).map (·.size) = some 1 := by kernel_rfl
theorem zeroRd : (Try.prog.info? 103).bind (·.zero) = some (.agg #[.pointer none]) := by kernel_rfl
theorem built_peer (x : Int) (a : Nat) : Try.prog.built 60 [(0, .int .i64 x), (1, idV a)] = some (peerC x a) := by
  rw [peerC_eq, idV_eq, idC]
  unfold rowOf
  kernel_rfl
theorem pb {a : Act} {w : World} {dst : Option Tmp} {ty : TypeId} {pos : String} {aft : Array Edge} {gd : Option (Nat × Bool)} {parts : Array (Nat × Operand)} {x : Int} {p : Nat} (hp : (parts.map fun (i, x) => (i, a.eval x)).toList = [(0, .int .i64 x), (1, idV p)]) : (execOp a.eval ⟨dst, .build 60 parts, ty, pos, aft, gd⟩).run Try.prog w = .ok (.value (peerV x p)) w := by
  rw [peerV_eq]; exact ld_build (built_peer x p) hp
attribute [local irreducible] wpQuiet wpList wpAnyH Calls
/-- A call on a reader that throws an error. -/
def TakesP (f : FuncId) (args : Array Value) (b : Nat) (s : ByteArray) (x : Int) (r : ByteArray) : Prop :=
  ∀ w, w.heap[b]? = some (.cells #[.string s] 76 (0, 0)) → Calls Try.prog f args w fun e w' => e = .panicked [{ v := .iface 27 (.int .i64 x), recovered := false }] ∧ Mem w [b] [(b, .cells #[.string r] 76 (0, 0))] w'
theorem gNumber_ok (b : Nat) (s r : ByteArray) (v lo hi : Int) (hl : ¬ v < lo) (hh : ¬ hi < v) (hn : Takes 24 #[.pointer (some ⟨b, 0, none⟩)] b s (.tuple #[.int .u64 v, .int .i64 0]) r) :
    Takes 73 #[.agg #[.pointer (some ⟨b, 0, none⟩)], .int .u64 lo, .int .u64 hi] b s (.int .u64 v) r := by
  intro w hw
  have d1 : decide (v < lo) = false := decide_eq_false hl
  have d2 : decide (hi < v) = false := decide_eq_false hh
  clear hl hh
  go_enter Try.func73, Try.ntmps73
  have hm := Mem.start hw
  go_wp2_with ((first | refine wpList_skip (by rfl) ?_ | (refine wlL (hm := hm) (hu := by first | exact undPeer | exact undID | exact undRd) (hi := by (try simp only [rowOf_size, idC_size, peerC_size]); first | exact sizePeer | exact sizeID | exact sizeRd) (h := ?_); (try simp only [Act.put, k1, k2, k3]); (try simp only [← peerV_eq, ← idV_eq])) | refine wlLC (hm := hm) (hu := by first | exact undInt | exact undU64 | exact undBool | exact undStr | exact undRdP) (h := ?_) | (refine yS (hm := hm) (hi := by (try simp only [rowOf_size, idC_size, peerC_size]); first | exact sizePeer | exact sizeID | exact sizeRd) (h := ?_); clear hm; intro w1 hm; (try simp only [rowOf_set, k1, k2, k3, Value.cells, Act.eval, k7, k8, k9, kA, Option.getD_some] at hm)) | (refine wlSC (hm := hm) (hi := by first | exact sizeInt | exact sizeU64 | exact sizeBool | exact sizeStr | exact sizeRdP) (ho := by first | decide | (simp only [rowOf_size, idC_size, peerC_size]; omega) | (simp; done)) (h := ?_); clear hm; intro w1 hm; (try simp only [rowOf_set, k1, k2, k3, Value.cells, Act.eval, k7, k8, k9, kA, Option.getD_some] at hm)) | (refine wlA (hz := by first | exact zeroPeer | exact zeroID | exact zeroRd) (hm := hm) (h := ?_); clear hm; intro b1 w1 hm; (try simp only [rowOf_set, k1, k2, k3, Value.cells, Act.eval, k7, k8, k9, kA, Option.getD_some] at hm)) | (refine wl_box (by rfl) rfl (by first | exact peerV_cells _ _ | exact letV_cells _ | exact idV_cells _ | rfl) hm ?_; clear hm; intro b1 w1 hm) | ((with_reducible show wpList _ _ _ (⟨_, .build 60 _, _, _, _, _⟩ :: _) _ _); refine wl_op (by rfl) fun K hK => ?_; refine ow_value (pb (x := v) (p := a) (by first | rfl | simp [Act.eval])) (hK _ _ ?_); clear hK K) | (go_at_call 24; refine (hn _ (hm.heap (by with_reducible first | exact at0 | exact at1 | exact at2 | exact at3))).mono ?_; rintro e w1 ⟨rfl, hx⟩; replace hm := hm.callAt (by with_reducible first | exact at0 | exact at1 | exact at2 | exact at3) hx; clear hx; simp only [k2, k3] at hm) | (go_at_call 30; refine (hn _ (hm.heap (by with_reducible first | exact at0 | exact at1 | exact at2 | exact at3))).mono ?_; rintro e w1 ⟨rfl, hx⟩; replace hm := hm.callAt (by with_reducible first | exact at0 | exact at1 | exact at2 | exact at3) hx; clear hx; simp only [k2, k3] at hm) | (with_reducible first | refine stBs ?_ | refine stMs ?_ | refine stAp ?_ | refine stCo ?_)); (try simp only [k4, k5, k6, Act.put, k1, k2, k3]))
  go_ret
  exact ⟨rfl, hm.tail⟩
theorem gNumber_form (b : Nat) (s r : ByteArray) (v lo hi : Int) (h : v < lo ∨ hi < v) (hn : Takes 24 #[.pointer (some ⟨b, 0, none⟩)] b s (.tuple #[.int .u64 v, .int .i64 0]) r) :
    TakesP 73 #[.agg #[.pointer (some ⟨b, 0, none⟩)], .int .u64 lo, .int .u64 hi] b s 3 r := by
  intro w hw
  by_cases hl : v < lo
  · have d1 : decide (v < lo) = true := decide_eq_true hl
    clear hl h
    go_enter Try.func73, Try.ntmps73
    have hm := Mem.start hw
    go_wp2_with ((first | refine wpList_skip (by rfl) ?_ | (refine wlL (hm := hm) (hu := by first | exact undPeer | exact undID | exact undRd) (hi := by (try simp only [rowOf_size, idC_size, peerC_size]); first | exact sizePeer | exact sizeID | exact sizeRd) (h := ?_); (try simp only [Act.put, k1, k2, k3]); (try simp only [← peerV_eq, ← idV_eq])) | refine wlLC (hm := hm) (hu := by first | exact undInt | exact undU64 | exact undBool | exact undStr | exact undRdP) (h := ?_) | (refine yS (hm := hm) (hi := by (try simp only [rowOf_size, idC_size, peerC_size]); first | exact sizePeer | exact sizeID | exact sizeRd) (h := ?_); clear hm; intro w1 hm; (try simp only [rowOf_set, k1, k2, k3, Value.cells, Act.eval, k7, k8, k9, kA, Option.getD_some] at hm)) | (refine wlSC (hm := hm) (hi := by first | exact sizeInt | exact sizeU64 | exact sizeBool | exact sizeStr | exact sizeRdP) (ho := by first | decide | (simp only [rowOf_size, idC_size, peerC_size]; omega) | (simp; done)) (h := ?_); clear hm; intro w1 hm; (try simp only [rowOf_set, k1, k2, k3, Value.cells, Act.eval, k7, k8, k9, kA, Option.getD_some] at hm)) | (refine wlA (hz := by first | exact zeroPeer | exact zeroID | exact zeroRd) (hm := hm) (h := ?_); clear hm; intro b1 w1 hm; (try simp only [rowOf_set, k1, k2, k3, Value.cells, Act.eval, k7, k8, k9, kA, Option.getD_some] at hm)) | (refine wl_box (by rfl) rfl (by first | exact peerV_cells _ _ | exact letV_cells _ | exact idV_cells _ | rfl) hm ?_; clear hm; intro b1 w1 hm) | ((with_reducible show wpList _ _ _ (⟨_, .build 60 _, _, _, _, _⟩ :: _) _ _); refine wl_op (by rfl) fun K hK => ?_; refine ow_value (pb (x := v) (p := a) (by first | rfl | simp [Act.eval])) (hK _ _ ?_); clear hK K) | (go_at_call 24; refine (hn _ (hm.heap (by with_reducible first | exact at0 | exact at1 | exact at2 | exact at3))).mono ?_; rintro e w1 ⟨rfl, hx⟩; replace hm := hm.callAt (by with_reducible first | exact at0 | exact at1 | exact at2 | exact at3) hx; clear hx; simp only [k2, k3] at hm) | (go_at_call 30; refine (hn _ (hm.heap (by with_reducible first | exact at0 | exact at1 | exact at2 | exact at3))).mono ?_; rintro e w1 ⟨rfl, hx⟩; replace hm := hm.callAt (by with_reducible first | exact at0 | exact at1 | exact at2 | exact at3) hx; clear hx; simp only [k2, k3] at hm) | (with_reducible first | refine stBs ?_ | refine stMs ?_ | refine stAp ?_ | refine stCo ?_)); (try simp only [k4, k5, k6, Act.put, k1, k2, k3]))
    exact ⟨rfl, rfl, hm.tail⟩
  · have d1 : decide (v < lo) = false := decide_eq_false hl
    have d2 : decide (hi < v) = true := decide_eq_true (by omega)
    clear hl h
    go_enter Try.func73, Try.ntmps73
    have hm := Mem.start hw
    go_wp2_with ((first | refine wpList_skip (by rfl) ?_ | (refine wlL (hm := hm) (hu := by first | exact undPeer | exact undID | exact undRd) (hi := by (try simp only [rowOf_size, idC_size, peerC_size]); first | exact sizePeer | exact sizeID | exact sizeRd) (h := ?_); (try simp only [Act.put, k1, k2, k3]); (try simp only [← peerV_eq, ← idV_eq])) | refine wlLC (hm := hm) (hu := by first | exact undInt | exact undU64 | exact undBool | exact undStr | exact undRdP) (h := ?_) | (refine yS (hm := hm) (hi := by (try simp only [rowOf_size, idC_size, peerC_size]); first | exact sizePeer | exact sizeID | exact sizeRd) (h := ?_); clear hm; intro w1 hm; (try simp only [rowOf_set, k1, k2, k3, Value.cells, Act.eval, k7, k8, k9, kA, Option.getD_some] at hm)) | (refine wlSC (hm := hm) (hi := by first | exact sizeInt | exact sizeU64 | exact sizeBool | exact sizeStr | exact sizeRdP) (ho := by first | decide | (simp only [rowOf_size, idC_size, peerC_size]; omega) | (simp; done)) (h := ?_); clear hm; intro w1 hm; (try simp only [rowOf_set, k1, k2, k3, Value.cells, Act.eval, k7, k8, k9, kA, Option.getD_some] at hm)) | (refine wlA (hz := by first | exact zeroPeer | exact zeroID | exact zeroRd) (hm := hm) (h := ?_); clear hm; intro b1 w1 hm; (try simp only [rowOf_set, k1, k2, k3, Value.cells, Act.eval, k7, k8, k9, kA, Option.getD_some] at hm)) | (refine wl_box (by rfl) rfl (by first | exact peerV_cells _ _ | exact letV_cells _ | exact idV_cells _ | rfl) hm ?_; clear hm; intro b1 w1 hm) | ((with_reducible show wpList _ _ _ (⟨_, .build 60 _, _, _, _, _⟩ :: _) _ _); refine wl_op (by rfl) fun K hK => ?_; refine ow_value (pb (x := v) (p := a) (by first | rfl | simp [Act.eval])) (hK _ _ ?_); clear hK K) | (go_at_call 24; refine (hn _ (hm.heap (by with_reducible first | exact at0 | exact at1 | exact at2 | exact at3))).mono ?_; rintro e w1 ⟨rfl, hx⟩; replace hm := hm.callAt (by with_reducible first | exact at0 | exact at1 | exact at2 | exact at3) hx; clear hx; simp only [k2, k3] at hm) | (go_at_call 30; refine (hn _ (hm.heap (by with_reducible first | exact at0 | exact at1 | exact at2 | exact at3))).mono ?_; rintro e w1 ⟨rfl, hx⟩; replace hm := hm.callAt (by with_reducible first | exact at0 | exact at1 | exact at2 | exact at3) hx; clear hx; simp only [k2, k3] at hm) | (with_reducible first | refine stBs ?_ | refine stMs ?_ | refine stAp ?_ | refine stCo ?_)); (try simp only [k4, k5, k6, Act.put, k1, k2, k3]))
    exact ⟨rfl, rfl, hm.tail⟩
theorem gNumber_err (b : Nat) (s r : ByteArray) (v lo hi e : Int) (he : e ≠ 0) (hn : Takes 24 #[.pointer (some ⟨b, 0, none⟩)] b s (.tuple #[.int .u64 v, .int .i64 e]) r) :
    TakesP 73 #[.agg #[.pointer (some ⟨b, 0, none⟩)], .int .u64 lo, .int .u64 hi] b s e r := by
  intro w hw
  have d1 : (e == 0) = false := by rw [beq_eq_false_iff_ne]; exact he
  have d2 : (e != 0) = true := by rw [bne_iff_ne]; exact he
  clear he
  go_enter Try.func73, Try.ntmps73
  have hm := Mem.start hw
  go_wp2_with ((first | refine wpList_skip (by rfl) ?_ | (refine wlL (hm := hm) (hu := by first | exact undPeer | exact undID | exact undRd) (hi := by (try simp only [rowOf_size, idC_size, peerC_size]); first | exact sizePeer | exact sizeID | exact sizeRd) (h := ?_); (try simp only [Act.put, k1, k2, k3]); (try simp only [← peerV_eq, ← idV_eq])) | refine wlLC (hm := hm) (hu := by first | exact undInt | exact undU64 | exact undBool | exact undStr | exact undRdP) (h := ?_) | (refine yS (hm := hm) (hi := by (try simp only [rowOf_size, idC_size, peerC_size]); first | exact sizePeer | exact sizeID | exact sizeRd) (h := ?_); clear hm; intro w1 hm; (try simp only [rowOf_set, k1, k2, k3, Value.cells, Act.eval, k7, k8, k9, kA, Option.getD_some] at hm)) | (refine wlSC (hm := hm) (hi := by first | exact sizeInt | exact sizeU64 | exact sizeBool | exact sizeStr | exact sizeRdP) (ho := by first | decide | (simp only [rowOf_size, idC_size, peerC_size]; omega) | (simp; done)) (h := ?_); clear hm; intro w1 hm; (try simp only [rowOf_set, k1, k2, k3, Value.cells, Act.eval, k7, k8, k9, kA, Option.getD_some] at hm)) | (refine wlA (hz := by first | exact zeroPeer | exact zeroID | exact zeroRd) (hm := hm) (h := ?_); clear hm; intro b1 w1 hm; (try simp only [rowOf_set, k1, k2, k3, Value.cells, Act.eval, k7, k8, k9, kA, Option.getD_some] at hm)) | (refine wl_box (by rfl) rfl (by first | exact peerV_cells _ _ | exact letV_cells _ | exact idV_cells _ | rfl) hm ?_; clear hm; intro b1 w1 hm) | ((with_reducible show wpList _ _ _ (⟨_, .build 60 _, _, _, _, _⟩ :: _) _ _); refine wl_op (by rfl) fun K hK => ?_; refine ow_value (pb (x := v) (p := a) (by first | rfl | simp [Act.eval])) (hK _ _ ?_); clear hK K) | (go_at_call 24; refine (hn _ (hm.heap (by with_reducible first | exact at0 | exact at1 | exact at2 | exact at3))).mono ?_; rintro e w1 ⟨rfl, hx⟩; replace hm := hm.callAt (by with_reducible first | exact at0 | exact at1 | exact at2 | exact at3) hx; clear hx; simp only [k2, k3] at hm) | (go_at_call 30; refine (hn _ (hm.heap (by with_reducible first | exact at0 | exact at1 | exact at2 | exact at3))).mono ?_; rintro e w1 ⟨rfl, hx⟩; replace hm := hm.callAt (by with_reducible first | exact at0 | exact at1 | exact at2 | exact at3) hx; clear hx; simp only [k2, k3] at hm) | (with_reducible first | refine stBs ?_ | refine stMs ?_ | refine stAp ?_ | refine stCo ?_)); (try simp only [k4, k5, k6, Act.put, k1, k2, k3]))
  exact ⟨rfl, rfl, hm.tail⟩
theorem gPlace_ok (b : Nat) (s r : ByteArray) (a : Nat) (hn : Takes 30 #[.pointer (some ⟨b, 0, none⟩)] b s (.tuple #[idV a, .int .i64 0]) r) :
    Takes 75 #[.agg #[.pointer (some ⟨b, 0, none⟩)]] b s (idV a) r := by
  intro w hw
  go_enter Try.func75, Try.ntmps75
  have hm := Mem.start hw
  go_wp2_with ((first | refine wpList_skip (by rfl) ?_ | (refine wlL (hm := hm) (hu := by first | exact undPeer | exact undID | exact undRd) (hi := by (try simp only [rowOf_size, idC_size, peerC_size]); first | exact sizePeer | exact sizeID | exact sizeRd) (h := ?_); (try simp only [Act.put, k1, k2, k3]); (try simp only [← peerV_eq, ← idV_eq])) | refine wlLC (hm := hm) (hu := by first | exact undInt | exact undU64 | exact undBool | exact undStr | exact undRdP) (h := ?_) | (refine yS (hm := hm) (hi := by (try simp only [rowOf_size, idC_size, peerC_size]); first | exact sizePeer | exact sizeID | exact sizeRd) (h := ?_); clear hm; intro w1 hm; (try simp only [rowOf_set, k1, k2, k3, Value.cells, Act.eval, k7, k8, k9, kA, Option.getD_some] at hm)) | (refine wlSC (hm := hm) (hi := by first | exact sizeInt | exact sizeU64 | exact sizeBool | exact sizeStr | exact sizeRdP) (ho := by first | decide | (simp only [rowOf_size, idC_size, peerC_size]; omega) | (simp; done)) (h := ?_); clear hm; intro w1 hm; (try simp only [rowOf_set, k1, k2, k3, Value.cells, Act.eval, k7, k8, k9, kA, Option.getD_some] at hm)) | (refine wlA (hz := by first | exact zeroPeer | exact zeroID | exact zeroRd) (hm := hm) (h := ?_); clear hm; intro b1 w1 hm; (try simp only [rowOf_set, k1, k2, k3, Value.cells, Act.eval, k7, k8, k9, kA, Option.getD_some] at hm)) | (refine wl_box (by rfl) rfl (by first | exact peerV_cells _ _ | exact letV_cells _ | exact idV_cells _ | rfl) hm ?_; clear hm; intro b1 w1 hm) | ((with_reducible show wpList _ _ _ (⟨_, .build 60 _, _, _, _, _⟩ :: _) _ _); refine wl_op (by rfl) fun K hK => ?_; refine ow_value (pb (x := v) (p := a) (by first | rfl | simp [Act.eval])) (hK _ _ ?_); clear hK K) | (go_at_call 24; refine (hn _ (hm.heap (by with_reducible first | exact at0 | exact at1 | exact at2 | exact at3))).mono ?_; rintro e w1 ⟨rfl, hx⟩; replace hm := hm.callAt (by with_reducible first | exact at0 | exact at1 | exact at2 | exact at3) hx; clear hx; simp only [k2, k3] at hm) | (go_at_call 30; refine (hn _ (hm.heap (by with_reducible first | exact at0 | exact at1 | exact at2 | exact at3))).mono ?_; rintro e w1 ⟨rfl, hx⟩; replace hm := hm.callAt (by with_reducible first | exact at0 | exact at1 | exact at2 | exact at3) hx; clear hx; simp only [k2, k3] at hm) | (with_reducible first | refine stBs ?_ | refine stMs ?_ | refine stAp ?_ | refine stCo ?_)); (try simp only [k4, k5, k6, Act.put, k1, k2, k3]))
  refine bodyPost_ret (results_cell_row (h := rfl) _ _ _ _ _ _ _ rfl (hm.heap (i := 1) rfl) undID rfl (by first | exact sizeID | (simp only [rowOf_size, idC_size, peerC_size]; exact sizeID))) rfl ?_
  exact ⟨by rw [idV_eq], hm.erase 0 |>.erase 0 |>.erase 0⟩
theorem gPlace_err (b : Nat) (s r : ByteArray) (a : Nat) (e : Int) (he : e ≠ 0) (hn : Takes 30 #[.pointer (some ⟨b, 0, none⟩)] b s (.tuple #[idV a, .int .i64 e]) r) :
    TakesP 75 #[.agg #[.pointer (some ⟨b, 0, none⟩)]] b s e r := by
  intro w hw
  have d2 : (e != 0) = true := by rw [bne_iff_ne]; exact he
  clear he
  go_enter Try.func75, Try.ntmps75
  have hm := Mem.start hw
  go_wp2_with ((first | refine wpList_skip (by rfl) ?_ | (refine wlL (hm := hm) (hu := by first | exact undPeer | exact undID | exact undRd) (hi := by (try simp only [rowOf_size, idC_size, peerC_size]); first | exact sizePeer | exact sizeID | exact sizeRd) (h := ?_); (try simp only [Act.put, k1, k2, k3]); (try simp only [← peerV_eq, ← idV_eq])) | refine wlLC (hm := hm) (hu := by first | exact undInt | exact undU64 | exact undBool | exact undStr | exact undRdP) (h := ?_) | (refine yS (hm := hm) (hi := by (try simp only [rowOf_size, idC_size, peerC_size]); first | exact sizePeer | exact sizeID | exact sizeRd) (h := ?_); clear hm; intro w1 hm; (try simp only [rowOf_set, k1, k2, k3, Value.cells, Act.eval, k7, k8, k9, kA, Option.getD_some] at hm)) | (refine wlSC (hm := hm) (hi := by first | exact sizeInt | exact sizeU64 | exact sizeBool | exact sizeStr | exact sizeRdP) (ho := by first | decide | (simp only [rowOf_size, idC_size, peerC_size]; omega) | (simp; done)) (h := ?_); clear hm; intro w1 hm; (try simp only [rowOf_set, k1, k2, k3, Value.cells, Act.eval, k7, k8, k9, kA, Option.getD_some] at hm)) | (refine wlA (hz := by first | exact zeroPeer | exact zeroID | exact zeroRd) (hm := hm) (h := ?_); clear hm; intro b1 w1 hm; (try simp only [rowOf_set, k1, k2, k3, Value.cells, Act.eval, k7, k8, k9, kA, Option.getD_some] at hm)) | (refine wl_box (by rfl) rfl (by first | exact peerV_cells _ _ | exact letV_cells _ | exact idV_cells _ | rfl) hm ?_; clear hm; intro b1 w1 hm) | ((with_reducible show wpList _ _ _ (⟨_, .build 60 _, _, _, _, _⟩ :: _) _ _); refine wl_op (by rfl) fun K hK => ?_; refine ow_value (pb (x := v) (p := a) (by first | rfl | simp [Act.eval])) (hK _ _ ?_); clear hK K) | (go_at_call 24; refine (hn _ (hm.heap (by with_reducible first | exact at0 | exact at1 | exact at2 | exact at3))).mono ?_; rintro e w1 ⟨rfl, hx⟩; replace hm := hm.callAt (by with_reducible first | exact at0 | exact at1 | exact at2 | exact at3) hx; clear hx; simp only [k2, k3] at hm) | (go_at_call 30; refine (hn _ (hm.heap (by with_reducible first | exact at0 | exact at1 | exact at2 | exact at3))).mono ?_; rintro e w1 ⟨rfl, hx⟩; replace hm := hm.callAt (by with_reducible first | exact at0 | exact at1 | exact at2 | exact at3) hx; clear hx; simp only [k2, k3] at hm) | (with_reducible first | refine stBs ?_ | refine stMs ?_ | refine stAp ?_ | refine stCo ?_)); (try simp only [k4, k5, k6, Act.put, k1, k2, k3]))
  exact ⟨rfl, rfl, hm.erase 0 |>.erase 0 |>.erase 0⟩
theorem gPeer_ok (b : Nat) (s s1 r : ByteArray) (v : Int) (a : Nat) (hv : IntKind.i64.wrap v = v) (hn : Takes 73 #[.agg #[.pointer (some ⟨b, 0, none⟩)], .int .u64 0, .int .u64 999] b s (.int .u64 v) s1)
    (hp : Takes 75 #[.agg #[.pointer (some ⟨b, 0, none⟩)]] b s1 (idV a) r) :
    Takes 74 #[.agg #[.pointer (some ⟨b, 0, none⟩)]] b s (peerV v a) r := by
  intro w hw
  go_enter Try.func74, Try.ntmps74
  have hm := Mem.start hw
  go_wp2_with ((first | refine wpList_skip (by rfl) ?_ | (refine wlL (hm := hm) (hu := by first | exact undPeer | exact undID | exact undRd) (hi := by (try simp only [rowOf_size, idC_size, peerC_size]); first | exact sizePeer | exact sizeID | exact sizeRd) (h := ?_); (try simp only [Act.put, k1, k2, k3]); (try simp only [← peerV_eq, ← idV_eq])) | refine wlLC (hm := hm) (hu := by first | exact undInt | exact undU64 | exact undBool | exact undStr | exact undRdP) (h := ?_) | (refine yS (hm := hm) (hi := by (try simp only [rowOf_size, idC_size, peerC_size]); first | exact sizePeer | exact sizeID | exact sizeRd) (h := ?_); clear hm; intro w1 hm; (try simp only [rowOf_set, k1, k2, k3, Value.cells, Act.eval, k7, k8, k9, kA, Option.getD_some] at hm)) | (refine wlSC (hm := hm) (hi := by first | exact sizeInt | exact sizeU64 | exact sizeBool | exact sizeStr | exact sizeRdP) (ho := by first | decide | (simp only [rowOf_size, idC_size, peerC_size]; omega) | (simp; done)) (h := ?_); clear hm; intro w1 hm; (try simp only [rowOf_set, k1, k2, k3, Value.cells, Act.eval, k7, k8, k9, kA, Option.getD_some] at hm)) | (refine wlA (hz := by first | exact zeroPeer | exact zeroID | exact zeroRd) (hm := hm) (h := ?_); clear hm; intro b1 w1 hm; (try simp only [rowOf_set, k1, k2, k3, Value.cells, Act.eval, k7, k8, k9, kA, Option.getD_some] at hm)) | (refine wl_box (by rfl) rfl (by first | exact peerV_cells _ _ | exact letV_cells _ | exact idV_cells _ | rfl) hm ?_; clear hm; intro b1 w1 hm) | ((with_reducible show wpList _ _ _ (⟨_, .build 60 _, _, _, _, _⟩ :: _) _ _); refine wl_op (by rfl) fun K hK => ?_; refine ow_value (pb (x := v) (p := a) (by first | rfl | simp [Act.eval])) (hK _ _ ?_); clear hK K) | (go_at_call 73; refine (hn _ (hm.heap (by with_reducible first | exact at0 | exact at1 | exact at2 | exact at3))).mono ?_; rintro e w1 ⟨rfl, hx⟩; replace hm := hm.callAt (by with_reducible first | exact at0 | exact at1 | exact at2 | exact at3) hx; clear hx; simp only [k2, k3] at hm) | (go_at_call 75; refine (hp _ (hm.heap (by with_reducible first | exact at0 | exact at1 | exact at2 | exact at3))).mono ?_; rintro e w1 ⟨rfl, hx⟩; replace hm := hm.callAt (by with_reducible first | exact at0 | exact at1 | exact at2 | exact at3) hx; clear hx; simp only [k2, k3] at hm) | (with_reducible first | refine stBs ?_ | refine stMs ?_ | refine stAp ?_ | refine stCo ?_)); (try simp only [k4, k5, k6, Act.put, k1, k2, k3]))
  refine bodyPost_ret (results_cell_row (h := rfl) _ _ _ _ _ _ _ rfl (hm.heap (i := 0) rfl) undPeer rfl (by first | exact sizePeer | (simp only [rowOf_size, idC_size, peerC_size]; exact sizePeer))) rfl ?_
  exact ⟨by rw [peerV_eq], hm.erase 0 |>.erase 0⟩
theorem gPeer_num (b : Nat) (s r : ByteArray) (x : Int) (hn : TakesP 73 #[.agg #[.pointer (some ⟨b, 0, none⟩)], .int .u64 0, .int .u64 999] b s x r) (hp : True) :
    TakesP 74 #[.agg #[.pointer (some ⟨b, 0, none⟩)]] b s x r := by
  intro w hw
  go_enter Try.func74, Try.ntmps74
  have hm := Mem.start hw
  go_wp2_with ((first | refine wpList_skip (by rfl) ?_ | (refine wlL (hm := hm) (hu := by first | exact undPeer | exact undID | exact undRd) (hi := by (try simp only [rowOf_size, idC_size, peerC_size]); first | exact sizePeer | exact sizeID | exact sizeRd) (h := ?_); (try simp only [Act.put, k1, k2, k3]); (try simp only [← peerV_eq, ← idV_eq])) | refine wlLC (hm := hm) (hu := by first | exact undInt | exact undU64 | exact undBool | exact undStr | exact undRdP) (h := ?_) | (refine yS (hm := hm) (hi := by (try simp only [rowOf_size, idC_size, peerC_size]); first | exact sizePeer | exact sizeID | exact sizeRd) (h := ?_); clear hm; intro w1 hm; (try simp only [rowOf_set, k1, k2, k3, Value.cells, Act.eval, k7, k8, k9, kA, Option.getD_some] at hm)) | (refine wlSC (hm := hm) (hi := by first | exact sizeInt | exact sizeU64 | exact sizeBool | exact sizeStr | exact sizeRdP) (ho := by first | decide | (simp only [rowOf_size, idC_size, peerC_size]; omega) | (simp; done)) (h := ?_); clear hm; intro w1 hm; (try simp only [rowOf_set, k1, k2, k3, Value.cells, Act.eval, k7, k8, k9, kA, Option.getD_some] at hm)) | (refine wlA (hz := by first | exact zeroPeer | exact zeroID | exact zeroRd) (hm := hm) (h := ?_); clear hm; intro b1 w1 hm; (try simp only [rowOf_set, k1, k2, k3, Value.cells, Act.eval, k7, k8, k9, kA, Option.getD_some] at hm)) | (refine wl_box (by rfl) rfl (by first | exact peerV_cells _ _ | exact letV_cells _ | exact idV_cells _ | rfl) hm ?_; clear hm; intro b1 w1 hm) | ((with_reducible show wpList _ _ _ (⟨_, .build 60 _, _, _, _, _⟩ :: _) _ _); refine wl_op (by rfl) fun K hK => ?_; refine ow_value (pb (x := v) (p := a) (by first | rfl | simp [Act.eval])) (hK _ _ ?_); clear hK K) | (go_at_call 73; refine (hn _ (hm.heap (by with_reducible first | exact at0 | exact at1 | exact at2 | exact at3))).mono ?_; rintro e w1 ⟨rfl, hx⟩; replace hm := hm.callAt (by with_reducible first | exact at0 | exact at1 | exact at2 | exact at3) hx; clear hx; simp only [k2, k3] at hm) | (go_at_call 75; refine (hp _ (hm.heap (by with_reducible first | exact at0 | exact at1 | exact at2 | exact at3))).mono ?_; rintro e w1 ⟨rfl, hx⟩; replace hm := hm.callAt (by with_reducible first | exact at0 | exact at1 | exact at2 | exact at3) hx; clear hx; simp only [k2, k3] at hm) | (with_reducible first | refine stBs ?_ | refine stMs ?_ | refine stAp ?_ | refine stCo ?_)); (try simp only [k4, k5, k6, Act.put, k1, k2, k3]))
  exact ⟨rfl, rfl, hm.erase 0 |>.erase 0⟩
theorem gPeer_plc (b : Nat) (s s1 r : ByteArray) (v x : Int) (hv : IntKind.i64.wrap v = v) (hn : Takes 73 #[.agg #[.pointer (some ⟨b, 0, none⟩)], .int .u64 0, .int .u64 999] b s (.int .u64 v) s1)
    (hp : TakesP 75 #[.agg #[.pointer (some ⟨b, 0, none⟩)]] b s1 x r) :
    TakesP 74 #[.agg #[.pointer (some ⟨b, 0, none⟩)]] b s x r := by
  intro w hw
  go_enter Try.func74, Try.ntmps74
  have hm := Mem.start hw
  go_wp2_with ((first | refine wpList_skip (by rfl) ?_ | (refine wlL (hm := hm) (hu := by first | exact undPeer | exact undID | exact undRd) (hi := by (try simp only [rowOf_size, idC_size, peerC_size]); first | exact sizePeer | exact sizeID | exact sizeRd) (h := ?_); (try simp only [Act.put, k1, k2, k3]); (try simp only [← peerV_eq, ← idV_eq])) | refine wlLC (hm := hm) (hu := by first | exact undInt | exact undU64 | exact undBool | exact undStr | exact undRdP) (h := ?_) | (refine yS (hm := hm) (hi := by (try simp only [rowOf_size, idC_size, peerC_size]); first | exact sizePeer | exact sizeID | exact sizeRd) (h := ?_); clear hm; intro w1 hm; (try simp only [rowOf_set, k1, k2, k3, Value.cells, Act.eval, k7, k8, k9, kA, Option.getD_some] at hm)) | (refine wlSC (hm := hm) (hi := by first | exact sizeInt | exact sizeU64 | exact sizeBool | exact sizeStr | exact sizeRdP) (ho := by first | decide | (simp only [rowOf_size, idC_size, peerC_size]; omega) | (simp; done)) (h := ?_); clear hm; intro w1 hm; (try simp only [rowOf_set, k1, k2, k3, Value.cells, Act.eval, k7, k8, k9, kA, Option.getD_some] at hm)) | (refine wlA (hz := by first | exact zeroPeer | exact zeroID | exact zeroRd) (hm := hm) (h := ?_); clear hm; intro b1 w1 hm; (try simp only [rowOf_set, k1, k2, k3, Value.cells, Act.eval, k7, k8, k9, kA, Option.getD_some] at hm)) | (refine wl_box (by rfl) rfl (by first | exact peerV_cells _ _ | exact letV_cells _ | exact idV_cells _ | rfl) hm ?_; clear hm; intro b1 w1 hm) | ((with_reducible show wpList _ _ _ (⟨_, .build 60 _, _, _, _, _⟩ :: _) _ _); refine wl_op (by rfl) fun K hK => ?_; refine ow_value (pb (x := v) (p := a) (by first | rfl | simp [Act.eval])) (hK _ _ ?_); clear hK K) | (go_at_call 73; refine (hn _ (hm.heap (by with_reducible first | exact at0 | exact at1 | exact at2 | exact at3))).mono ?_; rintro e w1 ⟨rfl, hx⟩; replace hm := hm.callAt (by with_reducible first | exact at0 | exact at1 | exact at2 | exact at3) hx; clear hx; simp only [k2, k3] at hm) | (go_at_call 75; refine (hp _ (hm.heap (by with_reducible first | exact at0 | exact at1 | exact at2 | exact at3))).mono ?_; rintro e w1 ⟨rfl, hx⟩; replace hm := hm.callAt (by with_reducible first | exact at0 | exact at1 | exact at2 | exact at3) hx; clear hx; simp only [k2, k3] at hm) | (with_reducible first | refine stBs ?_ | refine stMs ?_ | refine stAp ?_ | refine stCo ?_)); (try simp only [k4, k5, k6, Act.put, k1, k2, k3]))
  exact ⟨rfl, rfl, hm.erase 0 |>.erase 0⟩
end Go.Proofs.Ytijkmbebfodhdaa

/- (OpenI) -/
namespace Go.Proofs.Ytijkmbebfodhdaa
open Go.ChangeShapes Go.WideShapes Go.ChangeAt Go.RowKit
set_option linter.unusedVariables false
set_option maxRecDepth 20000
def numOf (f : Nat → Nat) : Nat → Nat
  | 0 => 0
  | k + 1 => 256 * numOf f k + f k
theorem numOf_dig (f : Nat → Nat) (hf : ∀ i, f i < 256) : ∀ k i, i < k → numOf f k / 256 ^ (k - 1 - i) % 256 = f i
  | 0, i, h => by omega
  | k + 1, i, h => by
    have h0 := hf k
    rw [numOf]
    by_cases hi : i = k
    · subst hi
      rw [show i + 1 - 1 - i = 0 from by omega, Nat.pow_zero, Nat.div_one]
      omega
    · have ih := numOf_dig f hf k i (by omega)
      rw [show k + 1 - 1 - i = (k - 1 - i) + 1 from by omega, Nat.pow_succ, Nat.mul_comm (256 ^ _) 256, ← Nat.div_div_eq_div_mul, show (256 * numOf f k + f k) / 256 = numOf f k from by omega]
      exact ih
end Go.Proofs.Ytijkmbebfodhdaa

/- (WirJ) -/
namespace Go.Proofs.Ytijkmbebfodhdaa
open Go.RowKit
set_option linter.unusedSimpArgs false
set_option linter.unusedVariables false
set_option maxHeartbeats 1000000
set_option maxRecDepth 20000
attribute [local irreducible] wpQuiet wpList wpAnyH Calls
theorem get_more (s : ByteArray) (h : s.size = 0) : Says 54 #[.string s] (.tuple #[.int .u64 0, .int .i64 0, .int .i64 4]) := by
  intro w
  go_enter Try.func54, Try.ntmps54
  have hm := Mem.refl w []
  go_wp2_with ((first | refine wpList_skip (by rfl) ?_ | (refine wlL (hm := hm) (hu := by first | exact undID | exact undLabel) (hi := by (try simp only [rowOf_size, idC_size]); first | exact sizeID | exact sizeLabel) (h := ?_); (try simp only [Act.put, k1, k2, k3]); (try simp only [← labV_eq, ← idV_eq])) | refine wlLC (hm := hm) (hu := by first | exact undStr | exact undByteI | exact undInt | exact undU64) (h := ?_) | (refine wlS (hm := hm) (hv := (by first | rfl | exact idV_eq _ | exact labV_eq _ _ | exact rectV_eq _ _ _ _)) (hi := by (try simp only [rowOf_size, idC_size]); first | exact sizeID | exact sizeLabel) (hs := by first | (simp only [rowOf_size, idC_size]; done) | rfl) (h1 := by first | rfl | exact idC_one _ | exact rowOf_one _ _ (fun _ _ => rfl) | (simp only [List.size_toArray, List.length_cons, List.all_toArray', List.all_cons, List.all_nil, Value.oneCell', Bool.and_true, Bool.and_self]; done) | (simp [Value.oneCell']; done)) (h := ?_); clear hm; intro w1 hm; (try simp only [rowOf_set, k1, k2, k3, Value.cells, Act.eval, k7, k8, k9, kA, Option.getD_some] at hm)) | (refine wlSC (hm := hm) (hi := by first | exact sizeStr | exact sizeByteI | exact sizeInt | exact sizeU64) (ho := by first | decide | (simp only [rowOf_size, idC_size]; omega) | (simp; done)) (h := ?_); clear hm; intro w1 hm; (try simp only [rowOf_set, k1, k2, k3, Value.cells, Act.eval, k7, k8, k9, kA, Option.getD_some] at hm)) | (refine wlA (hz := by first | exact zeroID | exact zeroLabel) (hm := hm) (h := ?_); clear hm; intro b1 w1 hm; (try simp only [rowOf_set, k1, k2, k3, Value.cells, Act.eval, k7, k8, k9, kA, Option.getD_some] at hm)) | (refine wl_box (by rfl) rfl (by first | exact idV_cells _ | exact labV_cells _ _ | exact rectV_cells _ _ _ _ | rfl) hm ?_; clear hm; intro b1 w1 hm) | (go_at_call 20; refine (hn _).mono ?_; rintro e w1 ⟨rfl, hx⟩; replace hm := hm.call hx; clear hx) | (with_reducible first | refine stBs ?_ | refine stMs ?_ | refine stAp ?_ | refine stCo ?_)); (try simp only [k4, k5, k6, Act.put, k1, k2, k3]))
  go_ret3
  exact ⟨rfl, hm.ext⟩
theorem get_form (s : ByteArray) (m n : Nat) (h : s.size = m) (h0 : 0 < m) (hn : 8 < n) (hn2 : n < 256) (hI0 : ∀ w, (Instr.index 9 (.string s) (.int .i64 0)).run Try.prog w = .ok (.int .u8 (n : Int)) w) : Says 54 #[.string s] (.tuple #[.int .u64 0, .int .i64 0, .int .i64 3]) := by
  intro w
  have d1 : ((m : Int) == 0) = false := by rw [beq_eq_false_iff_ne]; omega
  have d2 : ¬ m = 0 := by omega
  have f1 : IntKind.i64.wrap (n : Int) = (n : Int) := wrap_i64 (by omega) (by omega)
  go_enter Try.func54, Try.ntmps54
  have hm := Mem.refl w []
  go_wp2_with ((first | refine wpList_skip (by rfl) ?_ | (refine wlL (hm := hm) (hu := by first | exact undID | exact undLabel) (hi := by (try simp only [rowOf_size, idC_size]); first | exact sizeID | exact sizeLabel) (h := ?_); (try simp only [Act.put, k1, k2, k3]); (try simp only [← labV_eq, ← idV_eq])) | refine wlLC (hm := hm) (hu := by first | exact undStr | exact undByteI | exact undInt | exact undU64) (h := ?_) | (refine wlS (hm := hm) (hv := (by first | rfl | exact idV_eq _ | exact labV_eq _ _ | exact rectV_eq _ _ _ _)) (hi := by (try simp only [rowOf_size, idC_size]); first | exact sizeID | exact sizeLabel) (hs := by first | (simp only [rowOf_size, idC_size]; done) | rfl) (h1 := by first | rfl | exact idC_one _ | exact rowOf_one _ _ (fun _ _ => rfl) | (simp only [List.size_toArray, List.length_cons, List.all_toArray', List.all_cons, List.all_nil, Value.oneCell', Bool.and_true, Bool.and_self]; done) | (simp [Value.oneCell']; done)) (h := ?_); clear hm; intro w1 hm; (try simp only [rowOf_set, k1, k2, k3, Value.cells, Act.eval, k7, k8, k9, kA, Option.getD_some] at hm)) | (refine wlSC (hm := hm) (hi := by first | exact sizeStr | exact sizeByteI | exact sizeInt | exact sizeU64) (ho := by first | decide | (simp only [rowOf_size, idC_size]; omega) | (simp; done)) (h := ?_); clear hm; intro w1 hm; (try simp only [rowOf_set, k1, k2, k3, Value.cells, Act.eval, k7, k8, k9, kA, Option.getD_some] at hm)) | (refine wlA (hz := by first | exact zeroID | exact zeroLabel) (hm := hm) (h := ?_); clear hm; intro b1 w1 hm; (try simp only [rowOf_set, k1, k2, k3, Value.cells, Act.eval, k7, k8, k9, kA, Option.getD_some] at hm)) | (refine wl_box (by rfl) rfl (by first | exact idV_cells _ | exact labV_cells _ _ | exact rectV_cells _ _ _ _ | rfl) hm ?_; clear hm; intro b1 w1 hm) | (go_at_call 20; refine (hn _).mono ?_; rintro e w1 ⟨rfl, hx⟩; replace hm := hm.call hx; clear hx) | (with_reducible first | refine stBs ?_ | refine stMs ?_ | refine stAp ?_ | refine stCo ?_)); (try simp only [k4, k5, k6, Act.put, k1, k2, k3]))
  go_ret3
  exact ⟨rfl, hm.ext⟩
theorem get_cut (s : ByteArray) (m n : Nat) (h : s.size = m) (h0 : 0 < m) (hn : ¬ 8 < n) (hlt : m < n + 1) (hI0 : ∀ w, (Instr.index 9 (.string s) (.int .i64 0)).run Try.prog w = .ok (.int .u8 (n : Int)) w) : Says 54 #[.string s] (.tuple #[.int .u64 0, .int .i64 0, .int .i64 4]) := by
  intro w
  have d1 : ((m : Int) == 0) = false := by rw [beq_eq_false_iff_ne]; omega
  have d2 : ¬ m = 0 := by omega
  have f1 : IntKind.i64.wrap (n : Int) = (n : Int) := wrap_i64 (by omega) (by omega)
  obtain ⟨n1, hn1⟩ : ∃ x, n + 1 = x := ⟨_, rfl⟩
  have f2 : IntKind.i64.wrap (1 + (n : Int)) = (n1 : Int) := by rw [wrap_i64 (by omega) (by omega)]; omega
  rw [hn1] at hlt
  clear hn1
  go_enter Try.func54, Try.ntmps54
  have hm := Mem.refl w []
  go_wp2_with ((first | refine wpList_skip (by rfl) ?_ | (refine wlL (hm := hm) (hu := by first | exact undID | exact undLabel) (hi := by (try simp only [rowOf_size, idC_size]); first | exact sizeID | exact sizeLabel) (h := ?_); (try simp only [Act.put, k1, k2, k3]); (try simp only [← labV_eq, ← idV_eq])) | refine wlLC (hm := hm) (hu := by first | exact undStr | exact undByteI | exact undInt | exact undU64) (h := ?_) | (refine wlS (hm := hm) (hv := (by first | rfl | exact idV_eq _ | exact labV_eq _ _ | exact rectV_eq _ _ _ _)) (hi := by (try simp only [rowOf_size, idC_size]); first | exact sizeID | exact sizeLabel) (hs := by first | (simp only [rowOf_size, idC_size]; done) | rfl) (h1 := by first | rfl | exact idC_one _ | exact rowOf_one _ _ (fun _ _ => rfl) | (simp only [List.size_toArray, List.length_cons, List.all_toArray', List.all_cons, List.all_nil, Value.oneCell', Bool.and_true, Bool.and_self]; done) | (simp [Value.oneCell']; done)) (h := ?_); clear hm; intro w1 hm; (try simp only [rowOf_set, k1, k2, k3, Value.cells, Act.eval, k7, k8, k9, kA, Option.getD_some] at hm)) | (refine wlSC (hm := hm) (hi := by first | exact sizeStr | exact sizeByteI | exact sizeInt | exact sizeU64) (ho := by first | decide | (simp only [rowOf_size, idC_size]; omega) | (simp; done)) (h := ?_); clear hm; intro w1 hm; (try simp only [rowOf_set, k1, k2, k3, Value.cells, Act.eval, k7, k8, k9, kA, Option.getD_some] at hm)) | (refine wlA (hz := by first | exact zeroID | exact zeroLabel) (hm := hm) (h := ?_); clear hm; intro b1 w1 hm; (try simp only [rowOf_set, k1, k2, k3, Value.cells, Act.eval, k7, k8, k9, kA, Option.getD_some] at hm)) | (refine wl_box (by rfl) rfl (by first | exact idV_cells _ | exact labV_cells _ _ | exact rectV_cells _ _ _ _ | rfl) hm ?_; clear hm; intro b1 w1 hm) | (go_at_call 20; refine (hn _).mono ?_; rintro e w1 ⟨rfl, hx⟩; replace hm := hm.call hx; clear hx) | (with_reducible first | refine stBs ?_ | refine stMs ?_ | refine stAp ?_ | refine stCo ?_)); (try simp only [k4, k5, k6, Act.put, k1, k2, k3]))
  go_ret3
  exact ⟨rfl, hm.ext⟩
theorem get_go (s t A : ByteArray) (m n : Nat) (F : Nat → Nat) (hF : ∀ k, F k < 256) (h : s.size = m) (hm6 : m < 2 ^ 61) (hn : n ≤ 8) (hlt : n + 1 ≤ m) (q : Bool) (hI0 : ∀ w, (Instr.index 9 (.string s) (.int .i64 0)).run Try.prog w = .ok (.int .u8 (n : Int)) w)
    (hI : ∀ k : Nat, k < n → ∀ w, (Instr.index 9 (.string s) (.int .i64 ((k + 1 : Nat) : Int))).run Try.prog w = .ok (.int .u8 ((F k : Nat) : Int)) w)
    (ht : s.extract 0 (n + 1) = t) (hnA : Says 20 #[.int .u64 ((valB F n : Nat) : Int)] (.string A)) (hq : (A.toList != t.toList) = q) :
    Says 54 #[.string s] (if q then .tuple #[.int .u64 0, .int .i64 0, .int .i64 3] else .tuple #[.int .u64 ((valB F n : Nat) : Int), .int .i64 ((n + 1 : Nat) : Int), .int .i64 0]) := by
  intro w
  obtain ⟨res, hres⟩ : ∃ res, (if q then Value.tuple #[.int .u64 0, .int .i64 0, .int .i64 3] else .tuple #[.int .u64 ((valB F n : Nat) : Int), .int .i64 ((n + 1 : Nat) : Int), .int .i64 0]) = res := ⟨_, rfl⟩
  rw [hres]
  have HRes := hid hres
  have hq2 : (A.toList == t.toList) = !q := by rw [← hq]; simp [bne]
  have d1 : ((m : Int) == 0) = false := by rw [beq_eq_false_iff_ne]; omega
  have d2 : ¬ m = 0 := by omega
  have d3 : ¬ 8 < n := by omega
  have f1 : IntKind.i64.wrap (n : Int) = (n : Int) := wrap_i64 (by omega) (by omega)
  have HI := hid hI
  have HF := hid hF
  have HN := hid hn
  have HA := hid hnA
  have hsl := slice_to (s := s) (t := t) (n := n + 1) (by omega) ht
  obtain ⟨n1, hn1⟩ : ∃ x, n + 1 = x := ⟨_, rfl⟩
  have f2 : IntKind.i64.wrap (1 + (n : Int)) = (n1 : Int) := by rw [wrap_i64 (by omega) (by omega)]; omega
  have d4 : ¬ m < n1 := by omega
  rw [hn1] at hsl HRes
  have HN1 := hid hn1
  clear hn1 hres hI hF hn hnA ht hlt
  go_enter Try.func54, Try.ntmps54
  have hm := Mem.refl w []
  go_wp2_with ((first | refine wpList_skip (by rfl) ?_ | (refine wlL (hm := hm) (hu := by first | exact undID | exact undLabel) (hi := by (try simp only [rowOf_size, idC_size]); first | exact sizeID | exact sizeLabel) (h := ?_); (try simp only [Act.put, k1, k2, k3]); (try simp only [← labV_eq, ← idV_eq])) | refine wlLC (hm := hm) (hu := by first | exact undStr | exact undByteI | exact undInt | exact undU64) (h := ?_) | (refine wlS (hm := hm) (hv := (by first | rfl | exact idV_eq _ | exact labV_eq _ _ | exact rectV_eq _ _ _ _)) (hi := by (try simp only [rowOf_size, idC_size]); first | exact sizeID | exact sizeLabel) (hs := by first | (simp only [rowOf_size, idC_size]; done) | rfl) (h1 := by first | rfl | exact idC_one _ | exact rowOf_one _ _ (fun _ _ => rfl) | (simp only [List.size_toArray, List.length_cons, List.all_toArray', List.all_cons, List.all_nil, Value.oneCell', Bool.and_true, Bool.and_self]; done) | (simp [Value.oneCell']; done)) (h := ?_); clear hm; intro w1 hm; (try simp only [rowOf_set, k1, k2, k3, Value.cells, Act.eval, k7, k8, k9, kA, Option.getD_some] at hm)) | (refine wlSC (hm := hm) (hi := by first | exact sizeStr | exact sizeByteI | exact sizeInt | exact sizeU64) (ho := by first | decide | (simp only [rowOf_size, idC_size]; omega) | (simp; done)) (h := ?_); clear hm; intro w1 hm; (try simp only [rowOf_set, k1, k2, k3, Value.cells, Act.eval, k7, k8, k9, kA, Option.getD_some] at hm)) | (refine wlA (hz := by first | exact zeroID | exact zeroLabel) (hm := hm) (h := ?_); clear hm; intro b1 w1 hm; (try simp only [rowOf_set, k1, k2, k3, Value.cells, Act.eval, k7, k8, k9, kA, Option.getD_some] at hm)) | (refine wl_box (by rfl) rfl (by first | exact idV_cells _ | exact labV_cells _ _ | exact rectV_cells _ _ _ _ | rfl) hm ?_; clear hm; intro b1 w1 hm) | (go_at_call 20; refine (hn _).mono ?_; rintro e w1 ⟨rfl, hx⟩; replace hm := hm.call hx; clear hx) | (with_reducible first | refine stBs ?_ | refine stMs ?_ | refine stAp ?_ | refine stCo ?_)); (try simp only [k4, k5, k6, Act.put, k1, k2, k3]))
  clear hI0 f1 d3 d4 d1 d2
  go_loopw [6, 7] (fun vv vi wr => ∃ k i : Nat, k ≤ n ∧ k + 1 = i ∧ vi = .int .i64 (i : Int) ∧ vv = .int .u64 ((valB F k : Nat) : Int) ∧ Mem w [] [] wr)
    (fun _ vi _ => (n + 1 - intOf vi).toNat)
  case atStart => exact ⟨0, 1, by omega, rfl, rfl, rfl, hm⟩
  case round =>
    clear hm
    obtain ⟨k, i, hk, hki, rfl, rfl, hm⟩ := hrel
    by_cases hkn : k < n
    · have hi := HI.out k hkn
      have hfk := HF.out k
      have hv := valB_lt F HF.out k
      have hp : 256 ^ k ≤ 256 ^ 7 := Nat.pow_le_pow_right (by omega) (by have := HN.out; omega)
      have HS := hid (show valB F (k + 1) = valB F k * 256 + F k from rfl)
      rw [hki] at hi
      obtain ⟨v, hv'⟩ : ∃ v, valB F k = v := ⟨_, rfl⟩
      obtain ⟨y, hy⟩ : ∃ y, F k = y := ⟨_, rfl⟩
      rw [hv'] at hv HS ⊢
      rw [hy] at hi hfk HS
      have hv56 : v < 2 ^ 56 := by have : (256 : Nat) ^ 7 = 2 ^ 56 := by decide
                                   omega
      obtain ⟨z, hz⟩ : ∃ z, v * 256 + y = z := ⟨_, rfl⟩
      rw [hz] at HS
      obtain ⟨u, hu⟩ : ∃ u, v * 256 = u := ⟨_, rfl⟩
      have g1 : IntKind.u64.wrap (256 * (v : Int)) = (u : Int) := by rw [wrap_u64 (by omega) (by omega)]; omega
      have g2 : IntKind.u64.wrap (y : Int) = (y : Int) := wrap_u64 (by omega) (by omega)
      have g3 : IntKind.u64.wrap ((u : Int) + (y : Int)) = (z : Int) := by rw [wrap_u64 (by omega) (by omega)]; omega
      have g4 : IntKind.i64.wrap ((i : Int) + 1) = (i : Int) + 1 := wrap_i64 (by have := HN.out; omega) (by have := HN.out; omega)
      have e1 : (i : Int) ≤ (n : Int) := by omega
      have e2 : i ≤ n := by omega
      have HK := hid (show k + 1 ≤ n ∧ k + 1 + 1 = i + 1 from ⟨by omega, by omega⟩)
      clear hv' hy hz hu hv56 hv hp hfk hk hki hkn
      go_wp2_with ((first | refine wpList_skip (by rfl) ?_ | (refine wlL (hm := hm) (hu := by first | exact undID | exact undLabel) (hi := by (try simp only [rowOf_size, idC_size]); first | exact sizeID | exact sizeLabel) (h := ?_); (try simp only [Act.put, k1, k2, k3]); (try simp only [← labV_eq, ← idV_eq])) | refine wlLC (hm := hm) (hu := by first | exact undStr | exact undByteI | exact undInt | exact undU64) (h := ?_) | (refine wlS (hm := hm) (hv := (by first | rfl | exact idV_eq _ | exact labV_eq _ _ | exact rectV_eq _ _ _ _)) (hi := by (try simp only [rowOf_size, idC_size]); first | exact sizeID | exact sizeLabel) (hs := by first | (simp only [rowOf_size, idC_size]; done) | rfl) (h1 := by first | rfl | exact idC_one _ | exact rowOf_one _ _ (fun _ _ => rfl) | (simp only [List.size_toArray, List.length_cons, List.all_toArray', List.all_cons, List.all_nil, Value.oneCell', Bool.and_true, Bool.and_self]; done) | (simp [Value.oneCell']; done)) (h := ?_); clear hm; intro w1 hm; (try simp only [rowOf_set, k1, k2, k3, Value.cells, Act.eval, k7, k8, k9, kA, Option.getD_some] at hm)) | (refine wlSC (hm := hm) (hi := by first | exact sizeStr | exact sizeByteI | exact sizeInt | exact sizeU64) (ho := by first | decide | (simp only [rowOf_size, idC_size]; omega) | (simp; done)) (h := ?_); clear hm; intro w1 hm; (try simp only [rowOf_set, k1, k2, k3, Value.cells, Act.eval, k7, k8, k9, kA, Option.getD_some] at hm)) | (refine wlA (hz := by first | exact zeroID | exact zeroLabel) (hm := hm) (h := ?_); clear hm; intro b1 w1 hm; (try simp only [rowOf_set, k1, k2, k3, Value.cells, Act.eval, k7, k8, k9, kA, Option.getD_some] at hm)) | (refine wl_box (by rfl) rfl (by first | exact idV_cells _ | exact labV_cells _ _ | exact rectV_cells _ _ _ _ | rfl) hm ?_; clear hm; intro b1 w1 hm) | (go_at_call 20; refine (hn _).mono ?_; rintro e w1 ⟨rfl, hx⟩; replace hm := hm.call hx; clear hx) | (with_reducible first | refine stBs ?_ | refine stMs ?_ | refine stAp ?_ | refine stCo ?_)); (try simp only [k4, k5, k6, Act.put, k1, k2, k3]))
      go_roundw
      case rel => exact ⟨k + 1, i + 1, HK.out.1, HK.out.2, by go_num, by rw [HS.out], hm⟩
      case measure => (have := HK.out; simp [intOf]; try omega)
    · obtain rfl : k = n := by omega
      have e1 : ¬ (i : Int) ≤ (k : Int) := by omega
      have e2 : ¬ i ≤ k := by omega
      have hn := HA.out
      obtain ⟨v, hv⟩ : ∃ v, valB F k = v := ⟨_, rfl⟩
      have hrs := HRes.out
      rw [hv] at hn hrs
      rw [hv]
      have HR2 := hid hrs
      clear hrs hk hkn hv hki HRes
      cases q with
      | false =>
        have hrs := HR2.out
        rw [if_neg (by decide)] at hrs
        have HR3 := hid hrs
        clear hrs HR2
        go_wp2_with ((first | refine wpList_skip (by rfl) ?_ | (refine wlL (hm := hm) (hu := by first | exact undID | exact undLabel) (hi := by (try simp only [rowOf_size, idC_size]); first | exact sizeID | exact sizeLabel) (h := ?_); (try simp only [Act.put, k1, k2, k3]); (try simp only [← labV_eq, ← idV_eq])) | refine wlLC (hm := hm) (hu := by first | exact undStr | exact undByteI | exact undInt | exact undU64) (h := ?_) | (refine wlS (hm := hm) (hv := (by first | rfl | exact idV_eq _ | exact labV_eq _ _ | exact rectV_eq _ _ _ _)) (hi := by (try simp only [rowOf_size, idC_size]); first | exact sizeID | exact sizeLabel) (hs := by first | (simp only [rowOf_size, idC_size]; done) | rfl) (h1 := by first | rfl | exact idC_one _ | exact rowOf_one _ _ (fun _ _ => rfl) | (simp only [List.size_toArray, List.length_cons, List.all_toArray', List.all_cons, List.all_nil, Value.oneCell', Bool.and_true, Bool.and_self]; done) | (simp [Value.oneCell']; done)) (h := ?_); clear hm; intro w1 hm; (try simp only [rowOf_set, k1, k2, k3, Value.cells, Act.eval, k7, k8, k9, kA, Option.getD_some] at hm)) | (refine wlSC (hm := hm) (hi := by first | exact sizeStr | exact sizeByteI | exact sizeInt | exact sizeU64) (ho := by first | decide | (simp only [rowOf_size, idC_size]; omega) | (simp; done)) (h := ?_); clear hm; intro w1 hm; (try simp only [rowOf_set, k1, k2, k3, Value.cells, Act.eval, k7, k8, k9, kA, Option.getD_some] at hm)) | (refine wlA (hz := by first | exact zeroID | exact zeroLabel) (hm := hm) (h := ?_); clear hm; intro b1 w1 hm; (try simp only [rowOf_set, k1, k2, k3, Value.cells, Act.eval, k7, k8, k9, kA, Option.getD_some] at hm)) | (refine wl_box (by rfl) rfl (by first | exact idV_cells _ | exact labV_cells _ _ | exact rectV_cells _ _ _ _ | rfl) hm ?_; clear hm; intro b1 w1 hm) | (go_at_call 20; refine (hn _).mono ?_; rintro e w1 ⟨rfl, hx⟩; replace hm := hm.call hx; clear hx) | (with_reducible first | refine stBs ?_ | refine stMs ?_ | refine stAp ?_ | refine stCo ?_)); (try simp only [k4, k5, k6, Act.put, k1, k2, k3]))
        go_wp2_with (with_reducible first | refine stAl ?_ | refine stBo ?_ | refine stLo ?_ | refine stSo ?_ | refine stBu ?_ | refine stBs ?_ | refine stMs ?_ | refine stAp ?_ | refine stCo ?_); refine wp_quiet_mem (by kernel_rfl) (by kernel_rfl) hm ?_
        repeat ((first | refine wq_skip (by rfl) ?_ | (refine wqL (hu := by first | exact undID | exact undLabel) (hi := by (try simp only [rowOf_size, idC_size]); first | exact sizeID | exact sizeLabel) (h := ?_); (try simp only [Act.put, k1, k2, k3]); (try simp only [← labV_eq, ← idV_eq])) | refine wqLC (hu := by first | exact undStr | exact undByteI | exact undInt | exact undU64) (h := ?_) | ((with_reducible show wpQuiet _ _ _ _ (⟨_, .call _, _, _, _, _⟩ :: _) _); refine wq_ask (by rfl) ?_; apply Exists.intro; refine ⟨?_, ?_⟩; (focus (intro w hC; go_simp; first | (go_at_call 20; exact (hn _).mono fun e w' h => ⟨h.1, hC.call h.2⟩)))) | refine wqS (h := ?_)); (try simp only [k4, k5, k6, Act.put, k1, k2, k3]))
        refine wpQuiet_nil ?_; clear hm; intro w5 hm
        go_wp2_with ((first | refine wpList_skip (by rfl) ?_ | (refine wlL (hm := hm) (hu := by first | exact undID | exact undLabel) (hi := by (try simp only [rowOf_size, idC_size]); first | exact sizeID | exact sizeLabel) (h := ?_); (try simp only [Act.put, k1, k2, k3]); (try simp only [← labV_eq, ← idV_eq])) | refine wlLC (hm := hm) (hu := by first | exact undStr | exact undByteI | exact undInt | exact undU64) (h := ?_) | (refine wlS (hm := hm) (hv := (by first | rfl | exact idV_eq _ | exact labV_eq _ _ | exact rectV_eq _ _ _ _)) (hi := by (try simp only [rowOf_size, idC_size]); first | exact sizeID | exact sizeLabel) (hs := by first | (simp only [rowOf_size, idC_size]; done) | rfl) (h1 := by first | rfl | exact idC_one _ | exact rowOf_one _ _ (fun _ _ => rfl) | (simp only [List.size_toArray, List.length_cons, List.all_toArray', List.all_cons, List.all_nil, Value.oneCell', Bool.and_true, Bool.and_self]; done) | (simp [Value.oneCell']; done)) (h := ?_); clear hm; intro w1 hm; (try simp only [rowOf_set, k1, k2, k3, Value.cells, Act.eval, k7, k8, k9, kA, Option.getD_some] at hm)) | (refine wlSC (hm := hm) (hi := by first | exact sizeStr | exact sizeByteI | exact sizeInt | exact sizeU64) (ho := by first | decide | (simp only [rowOf_size, idC_size]; omega) | (simp; done)) (h := ?_); clear hm; intro w1 hm; (try simp only [rowOf_set, k1, k2, k3, Value.cells, Act.eval, k7, k8, k9, kA, Option.getD_some] at hm)) | (refine wlA (hz := by first | exact zeroID | exact zeroLabel) (hm := hm) (h := ?_); clear hm; intro b1 w1 hm; (try simp only [rowOf_set, k1, k2, k3, Value.cells, Act.eval, k7, k8, k9, kA, Option.getD_some] at hm)) | (refine wl_box (by rfl) rfl (by first | exact idV_cells _ | exact labV_cells _ _ | exact rectV_cells _ _ _ _ | rfl) hm ?_; clear hm; intro b1 w1 hm) | (go_at_call 20; refine (hn _).mono ?_; rintro e w1 ⟨rfl, hx⟩; replace hm := hm.call hx; clear hx) | (with_reducible first | refine stBs ?_ | refine stMs ?_ | refine stAp ?_ | refine stCo ?_)); (try simp only [k4, k5, k6, Act.put, k1, k2, k3]))
        go_ret3
        exact ⟨by rw [← HR3.out] <;> rfl, hm.ext⟩
      | true =>
        have hrs := HR2.out
        rw [if_pos rfl] at hrs
        have HR3 := hid hrs
        clear hrs HR2
        go_wp2_with ((first | refine wpList_skip (by rfl) ?_ | (refine wlL (hm := hm) (hu := by first | exact undID | exact undLabel) (hi := by (try simp only [rowOf_size, idC_size]); first | exact sizeID | exact sizeLabel) (h := ?_); (try simp only [Act.put, k1, k2, k3]); (try simp only [← labV_eq, ← idV_eq])) | refine wlLC (hm := hm) (hu := by first | exact undStr | exact undByteI | exact undInt | exact undU64) (h := ?_) | (refine wlS (hm := hm) (hv := (by first | rfl | exact idV_eq _ | exact labV_eq _ _ | exact rectV_eq _ _ _ _)) (hi := by (try simp only [rowOf_size, idC_size]); first | exact sizeID | exact sizeLabel) (hs := by first | (simp only [rowOf_size, idC_size]; done) | rfl) (h1 := by first | rfl | exact idC_one _ | exact rowOf_one _ _ (fun _ _ => rfl) | (simp only [List.size_toArray, List.length_cons, List.all_toArray', List.all_cons, List.all_nil, Value.oneCell', Bool.and_true, Bool.and_self]; done) | (simp [Value.oneCell']; done)) (h := ?_); clear hm; intro w1 hm; (try simp only [rowOf_set, k1, k2, k3, Value.cells, Act.eval, k7, k8, k9, kA, Option.getD_some] at hm)) | (refine wlSC (hm := hm) (hi := by first | exact sizeStr | exact sizeByteI | exact sizeInt | exact sizeU64) (ho := by first | decide | (simp only [rowOf_size, idC_size]; omega) | (simp; done)) (h := ?_); clear hm; intro w1 hm; (try simp only [rowOf_set, k1, k2, k3, Value.cells, Act.eval, k7, k8, k9, kA, Option.getD_some] at hm)) | (refine wlA (hz := by first | exact zeroID | exact zeroLabel) (hm := hm) (h := ?_); clear hm; intro b1 w1 hm; (try simp only [rowOf_set, k1, k2, k3, Value.cells, Act.eval, k7, k8, k9, kA, Option.getD_some] at hm)) | (refine wl_box (by rfl) rfl (by first | exact idV_cells _ | exact labV_cells _ _ | exact rectV_cells _ _ _ _ | rfl) hm ?_; clear hm; intro b1 w1 hm) | (go_at_call 20; refine (hn _).mono ?_; rintro e w1 ⟨rfl, hx⟩; replace hm := hm.call hx; clear hx) | (with_reducible first | refine stBs ?_ | refine stMs ?_ | refine stAp ?_ | refine stCo ?_)); (try simp only [k4, k5, k6, Act.put, k1, k2, k3]))
        go_wp2_with (with_reducible first | refine stAl ?_ | refine stBo ?_ | refine stLo ?_ | refine stSo ?_ | refine stBu ?_ | refine stBs ?_ | refine stMs ?_ | refine stAp ?_ | refine stCo ?_); refine wp_quiet_mem (by kernel_rfl) (by kernel_rfl) hm ?_
        repeat ((first | refine wq_skip (by rfl) ?_ | (refine wqL (hu := by first | exact undID | exact undLabel) (hi := by (try simp only [rowOf_size, idC_size]); first | exact sizeID | exact sizeLabel) (h := ?_); (try simp only [Act.put, k1, k2, k3]); (try simp only [← labV_eq, ← idV_eq])) | refine wqLC (hu := by first | exact undStr | exact undByteI | exact undInt | exact undU64) (h := ?_) | ((with_reducible show wpQuiet _ _ _ _ (⟨_, .call _, _, _, _, _⟩ :: _) _); refine wq_ask (by rfl) ?_; apply Exists.intro; refine ⟨?_, ?_⟩; (focus (intro w hC; go_simp; first | (go_at_call 20; exact (hn _).mono fun e w' h => ⟨h.1, hC.call h.2⟩)))) | refine wqS (h := ?_)); (try simp only [k4, k5, k6, Act.put, k1, k2, k3]))
        refine wpQuiet_nil ?_; clear hm; intro w5 hm
        go_wp2_with ((first | refine wpList_skip (by rfl) ?_ | (refine wlL (hm := hm) (hu := by first | exact undID | exact undLabel) (hi := by (try simp only [rowOf_size, idC_size]); first | exact sizeID | exact sizeLabel) (h := ?_); (try simp only [Act.put, k1, k2, k3]); (try simp only [← labV_eq, ← idV_eq])) | refine wlLC (hm := hm) (hu := by first | exact undStr | exact undByteI | exact undInt | exact undU64) (h := ?_) | (refine wlS (hm := hm) (hv := (by first | rfl | exact idV_eq _ | exact labV_eq _ _ | exact rectV_eq _ _ _ _)) (hi := by (try simp only [rowOf_size, idC_size]); first | exact sizeID | exact sizeLabel) (hs := by first | (simp only [rowOf_size, idC_size]; done) | rfl) (h1 := by first | rfl | exact idC_one _ | exact rowOf_one _ _ (fun _ _ => rfl) | (simp only [List.size_toArray, List.length_cons, List.all_toArray', List.all_cons, List.all_nil, Value.oneCell', Bool.and_true, Bool.and_self]; done) | (simp [Value.oneCell']; done)) (h := ?_); clear hm; intro w1 hm; (try simp only [rowOf_set, k1, k2, k3, Value.cells, Act.eval, k7, k8, k9, kA, Option.getD_some] at hm)) | (refine wlSC (hm := hm) (hi := by first | exact sizeStr | exact sizeByteI | exact sizeInt | exact sizeU64) (ho := by first | decide | (simp only [rowOf_size, idC_size]; omega) | (simp; done)) (h := ?_); clear hm; intro w1 hm; (try simp only [rowOf_set, k1, k2, k3, Value.cells, Act.eval, k7, k8, k9, kA, Option.getD_some] at hm)) | (refine wlA (hz := by first | exact zeroID | exact zeroLabel) (hm := hm) (h := ?_); clear hm; intro b1 w1 hm; (try simp only [rowOf_set, k1, k2, k3, Value.cells, Act.eval, k7, k8, k9, kA, Option.getD_some] at hm)) | (refine wl_box (by rfl) rfl (by first | exact idV_cells _ | exact labV_cells _ _ | exact rectV_cells _ _ _ _ | rfl) hm ?_; clear hm; intro b1 w1 hm) | (go_at_call 20; refine (hn _).mono ?_; rintro e w1 ⟨rfl, hx⟩; replace hm := hm.call hx; clear hx) | (with_reducible first | refine stBs ?_ | refine stMs ?_ | refine stAp ?_ | refine stCo ?_)); (try simp only [k4, k5, k6, Act.put, k1, k2, k3]))
        go_ret3
        exact ⟨by rw [← HR3.out] <;> rfl, hm.ext⟩
end Go.Proofs.Ytijkmbebfodhdaa

/- (WirM) -/
namespace Go.Proofs.Ytijkmbebfodhdaa
open Go.RowKit
set_option linter.unusedSimpArgs false
set_option linter.unusedVariables false
theorem valB_num (F : Nat → Nat) : ∀ k, valB F k = numOf F k
  | 0 => rfl
  | k + 1 => by rw [valB, numOf, valB_num F k, Nat.mul_comm]
theorem valB_ge (F : Nat → Nat) (h : 0 < F 0) : ∀ k, 256 ^ k ≤ valB F (k + 1)
  | 0 => by rw [valB, valB]; omega
  | k + 1 => by
    have := valB_ge F h k
    rw [valB, Nat.pow_succ]
    omega
theorem num_canon (m : Nat) (f : Nat → Nat) (hf : ∀ j, f j < 256) (h : numE m f = 0) : nB (valB (dropF 1 f) (f 0)) = f 0 ∧ valB (dropF 1 f) (f 0) < 2 ^ 64 ∧ f 0 ≤ 8 ∧ 1 + f 0 ≤ m ∧ bytesB (f 0 + 1) f = numB (valB (dropF 1 f) (f 0)) := by
  unfold numE at h
  by_cases h0 : m = 0
  · rw [if_pos h0] at h; omega
  rw [if_neg h0] at h
  by_cases h8 : 8 < f 0
  · rw [if_pos h8] at h; omega
  rw [if_neg h8] at h
  by_cases hm : m < 1 + f 0
  · rw [if_pos hm] at h; omega
  rw [if_neg hm] at h
  by_cases hb : 0 < f 0 ∧ f 1 = 0
  · rw [if_pos hb] at h; omega
  obtain ⟨n, hn⟩ : ∃ n, f 0 = n := ⟨_, rfl⟩
  rw [hn] at h8 hm hb ⊢
  have hl := valB_lt (dropF 1 f) (fun k => hf _) n
  have hp : 256 ^ n ≤ 256 ^ 8 := Nat.pow_le_pow_right (by omega) (by omega)
  have e8 : (256 : Nat) ^ 8 = 2 ^ 64 := by decide
  have hnb : nB (valB (dropF 1 f) n) = n := by
    by_cases hn0 : n = 0
    · subst hn0; rfl
    · obtain ⟨k, rfl⟩ : ∃ k, n = k + 1 := ⟨n - 1, by omega⟩
      exact nB_unique _ _ (by omega) (valB_ge (dropF 1 f) (show 0 < f 1 by omega) k) hl
  refine ⟨hnb, by omega, by omega, by omega, ?_⟩
  unfold numB
  rw [hnb]
  refine bytesB_congr fun j hj => ?_
  unfold numF
  rw [hnb]
  by_cases hj0 : j = 0
  · rw [if_pos hj0, hj0, hn]
  · rw [if_neg hj0, valB_num]
    have := numOf_dig (dropF 1 f) (fun k => hf _) n (j - 1) (by omega)
    rw [show n - 1 - (j - 1) = n - j from by omega] at this
    rw [this]
    unfold dropF
    rw [show 1 + (j - 1) = j from by omega]
theorem valB_small (F : Nat → Nat) (hF : ∀ k, F k < 256) (h : F 0 = 0) : ∀ k, valB F (k + 1) < 256 ^ k
  | 0 => by rw [valB, valB, h]; decide
  | k + 1 => by
    have h1 := valB_small F hF h k
    have h2 := hF (k + 1)
    rw [valB, Nat.pow_succ]
    omega
/-- GetNumber, whatever the bytes. -/
theorem get_any (m : Nat) (f : Nat → Nat) (hf : ∀ j, f j < 256) (hm6 : m < 2 ^ 61) : ∃ v k : Nat, Says 54 #[.string (bytesB m f)] (.tuple #[.int .u64 (v : Int), .int .i64 (k : Int), .int .i64 ((numE m f : Nat) : Int)]) ∧
    (numE m f = 0 → v = valB (dropF 1 f) (f 0) ∧ k = f 0 + 1 ∧ k ≤ m) := by
  have hsz := bytesB_size m f
  by_cases h0 : m = 0
  · have e : numE m f = 4 := by unfold numE; rw [if_pos h0]
    rw [e]
    exact ⟨0, 0, get_more _ (by omega), fun h => by omega⟩
  have hI : ∀ k : Nat, k < m → ∀ w, (Instr.index 9 (.string (bytesB m f)) (.int .i64 (k : Int))).run Try.prog w = .ok (.int .u8 ((f k : Nat) : Int)) w := fun k hk => run_indexS (bytesB_get hk) (hf k)
  have hI0 : ∀ w, (Instr.index 9 (.string (bytesB m f)) (.int .i64 0)).run Try.prog w = .ok (.int .u8 ((f 0 : Nat) : Int)) w := hI 0 (by omega)
  by_cases h8 : 8 < f 0
  · have e : numE m f = 3 := by unfold numE; rw [if_neg h0, if_pos h8]
    rw [e]
    exact ⟨0, 0, get_form _ m (f 0) hsz (by omega) h8 (hf 0) hI0, fun h => by omega⟩
  by_cases hm : m < 1 + f 0
  · have e : numE m f = 4 := by unfold numE; rw [if_neg h0, if_neg h8, if_pos hm]
    rw [e]
    exact ⟨0, 0, get_cut _ m (f 0) hsz (by omega) h8 (by omega) hI0, fun h => by omega⟩
  have hl := valB_lt (dropF 1 f) (fun k => hf _) (f 0)
  have hp : 256 ^ f 0 ≤ 256 ^ 8 := Nat.pow_le_pow_right (by omega) (by omega)
  have e8 : (256 : Nat) ^ 8 = 2 ^ 64 := by decide
  have hg := fun q hq => get_go (bytesB m f) (bytesB (f 0 + 1) f) (numB (valB (dropF 1 f) (f 0))) m (f 0) (dropF 1 f) (fun k => hf _) hsz hm6 (by omega) (by omega) q hI0
    (fun k hk => by have := hI (k + 1) (by omega); unfold dropF; rw [Nat.add_comm 1 k]; exact this) (bytesB_take m _ f (by omega)) (refNumber_c _ (by omega)) hq
  by_cases hb : 0 < f 0 ∧ f 1 = 0
  · have e : numE m f = 3 := by unfold numE; rw [if_neg h0, if_neg h8, if_neg hm, if_pos hb]
    have hq : ((numB (valB (dropF 1 f) (f 0))).toList != (bytesB (f 0 + 1) f).toList) = true := by
      rw [bne, str_eq, decide_eq_false, Bool.not_false]
      intro he
      have hs := congrArg ByteArray.size he
      unfold numB at hs
      rw [bytesB_size, bytesB_size] at hs
      obtain ⟨k, hk⟩ : ∃ k, f 0 = k + 1 := ⟨f 0 - 1, by omega⟩
      rw [hk] at hs
      have h1 := valB_small (dropF 1 f) (fun k => hf _) (show f 1 = 0 from hb.2) k
      have hv : 0 < valB (dropF 1 f) (k + 1) := by
        rcases Nat.eq_zero_or_pos (valB (dropF 1 f) (k + 1)) with h | h
        · rw [h] at hs; exact absurd hs (by show ¬ 0 + 1 = k + 1 + 1; omega)
        · exact h
      have h2 := nB_le _ hv
      have h3 := (Nat.pow_lt_pow_iff_right (show 1 < 256 by omega)).1 (Nat.lt_of_le_of_lt h2 h1)
      omega
    have hh := hg true hq
    rw [if_pos rfl] at hh
    rw [e]
    exact ⟨0, 0, hh, fun h => by omega⟩
  · have e : numE m f = 0 := by unfold numE; rw [if_neg h0, if_neg h8, if_neg hm, if_neg hb]
    obtain ⟨_, _, _, _, e5⟩ := num_canon m f hf e
    have hq : ((numB (valB (dropF 1 f) (f 0))).toList != (bytesB (f 0 + 1) f).toList) = false := by rw [e5]; simp
    have hh := hg false hq
    rw [if_neg (by decide)] at hh
    rw [e]
    exact ⟨_, f 0 + 1, hh, fun _ => ⟨rfl, rfl, by omega⟩⟩
end Go.Proofs.Ytijkmbebfodhdaa

/- (LetR) -/
namespace Go.Proofs.Ytijkmbebfodhdaa
open Go.RowKit
set_option linter.unusedSimpArgs false
set_option linter.unusedVariables false
set_option maxRecDepth 20000
/-! ### Plain -/
def numS (s : ByteArray) : Nat := numE s.size (byteOf s)
def valS (s : ByteArray) : Nat := valB (dropF 1 (byteOf s)) (byteOf s 0)
def restN (s : ByteArray) : ByteArray := bytesB (s.size - 1 - byteOf s 0) (dropF (1 + byteOf s 0) (byteOf s))
/-- A number of lo to hi. -/
def gN (lo hi : Nat) (s : ByteArray) : Except Nat (Nat × ByteArray) :=
  if numS s ≠ 0 then .error (numS s) else if valS s < lo ∨ hi < valS s then .error 3 else .ok (valS s, restN s)
def gI (s : ByteArray) : Except Nat (Nat × ByteArray) :=
  if s.size < 20 then .error 4 else .ok (numOf (byteOf s) 20, bytesB (s.size - 20) (dropF 20 (byteOf s)))
def gP (s : ByteArray) : Except Nat ((Nat × Nat) × ByteArray) := do
  let (a, s) ← gN 0 999 s
  let (p, s) ← gI s
  .ok ((a, p), s)
/-- n of them. -/
def gMany {α : Type} (g : ByteArray → Except Nat (α × ByteArray)) : Nat → ByteArray → Except Nat (List α × ByteArray)
  | 0, s => .ok ([], s)
  | n + 1, s => do
    let (l, s) ← gMany g n s
    let (x, s) ← g s
    .ok (l ++ [x], s)
def opN (f : Bool) (lo hi : Nat) (s : ByteArray) : Except Nat (Nat × ByteArray) := if f then gN lo hi s else .ok (0, s)
def opI (f : Bool) (s : ByteArray) : Except Nat (Nat × ByteArray) := if f then gI s else .ok (0, s)
def opM {α : Type} (g : ByteArray → Except Nat (α × ByteArray)) (f : Bool) (most : Nat) (s : ByteArray) : Except Nat (List α × ByteArray) :=
  if f then (do let (n, s) ← gN 0 most s; gMany g n s) else .ok ([], s)
def opP (f : Bool) (s : ByteArray) : Except Nat ((Int × Nat) × ByteArray) := if f then (do let (p, s) ← gP s; .ok (((p.1 : Int), p.2), s)) else .ok ((-1, 0), s)
/-- A letter that was got. -/
structure LA where
  (kind fa fi req id : Nat) (av : List Nat) (done : Bool) (pa : Int) (pi : Nat) (ps : List (Nat × Nat))
/-- Has a kind the part j? -/
def hasB (k j : Nat) : Bool := bits .and .i64 ((partsM k : Nat) : Int) ((2 ^ j : Nat) : Int) != 0
def leastB (k : Nat) : Nat := if k = 2 then 1 else 0
def getA (s : ByteArray) : Except Nat LA := do
  let (k, s) ← gN 1 8 s
  let (f, s) ← gP s
  let (rq, s) ← opN (hasB k 0) 0 18446744073709551615 s
  let (id, s) ← opI (hasB k 1) s
  let (av, s) ← opM (gN 0 999) (hasB k 2) 16 s
  let (d, s) ← opN (hasB k 3) 0 1 s
  let (y, s) ← opN (hasB k 4) (leastB k) 1 s
  let (p, s) ← opP (y == 1) s
  let (ps, s) ← opM gP (hasB k 5) 8 s
  if 0 < s.size then .error 3 else .ok ⟨k, f.1, f.2, rq, id, av, d == 1, p.1, p.2, ps⟩
theorem gN_ok {lo hi : Nat} {s r : ByteArray} {v : Nat} (h : gN lo hi s = .ok (v, r)) : numS s = 0 ∧ valS s = v ∧ restN s = r ∧ lo ≤ v ∧ v ≤ hi := by
  unfold gN at h
  by_cases h0 : numS s ≠ 0
  · rw [if_pos h0] at h; cases h
  · rw [if_neg h0] at h
    by_cases h1 : valS s < lo ∨ hi < valS s
    · rw [if_pos h1] at h; cases h
    · rw [if_neg h1] at h
      cases h
      exact ⟨by omega, rfl, rfl, by omega, by omega⟩
theorem gMany_error {α : Type} {g : ByteArray → Except Nat (α × ByteArray)} {s : ByteArray} {x i : Nat} (h : gMany g i s = .error x) : ∀ k, gMany g (i + k) s = .error x
  | 0 => h
  | k + 1 => by
    rw [← Nat.add_assoc, gMany, gMany_error h k]; rfl
theorem gMany_err {α : Type} {g : ByteArray → Except Nat (α × ByteArray)} {s s' : ByteArray} {l : List α} {x i n : Nat} (h : gMany g i s = .ok (l, s')) (hg : g s' = .error x) (hi : i < n) : gMany g n s = .error x := by
  have h1 : gMany g (i + 1) s = .error x := by
    rw [gMany, h]
    show (g s' >>= _) = _
    rw [hg]; rfl
  have := gMany_error h1 (n - (i + 1))
  rwa [show i + 1 + (n - (i + 1)) = n by omega] at this
theorem gMany_ok {α : Type} {g : ByteArray → Except Nat (α × ByteArray)} {s s' s2 : ByteArray} {l : List α} {x : α} {i : Nat} (h : gMany g i s = .ok (l, s')) (hg : g s' = .ok (x, s2)) : gMany g (i + 1) s = .ok (l ++ [x], s2) := by
  rw [gMany, h]
  show (g s' >>= _) = _
  rw [hg]; rfl
theorem gMany_len {α : Type} {g : ByteArray → Except Nat (α × ByteArray)} {s : ByteArray} : ∀ {n : Nat} {l : List α} {s' : ByteArray}, gMany g n s = .ok (l, s') → l.length = n
  | 0, l, s', h => by cases h; rfl
  | n + 1, l, s', h => by
    rw [gMany] at h
    cases h1 : gMany g n s with
    | error x => rw [h1] at h; cases h
    | ok p =>
      rw [h1] at h
      have h2 : (g p.2 >>= fun q => Except.ok (p.1 ++ [q.1], q.2)) = .ok (l, s') := h
      cases h3 : g p.2 with
      | error x => rw [h3] at h2; cases h2
      | ok q =>
        rw [h3] at h2
        cases h2
        rw [List.length_append, gMany_len (l := p.1) (s' := p.2) h1]
        rfl
/-! ### Contracts -/
theorem NumS_ok (b : Nat) (s : ByteArray) (h : numS s = 0) : Takes 24 #[.pointer (some ⟨b, 0, none⟩)] b s (.tuple #[.int .u64 ((valS s : Nat) : Int), .int .i64 0]) (restN s) := by
  have := Number_ok b s.size (byteOf s) (byteOf_lt s) h
  rw [byteOf_eq] at this
  exact this
theorem NumS_err (b : Nat) (s : ByteArray) (h : numS s ≠ 0) : Takes 24 #[.pointer (some ⟨b, 0, none⟩)] b s (.tuple #[.int .u64 0, .int .i64 ((numS s : Nat) : Int)]) s := by
  have := Number_err b s.size (byteOf s) (byteOf_lt s) h
  rw [byteOf_eq] at this
  exact this
theorem gN_c {lo hi : Nat} {s r : ByteArray} {v : Nat} (h : gN lo hi s = .ok (v, r)) (b : Nat) {lo' hi' : Int} (e1 : (lo : Int) = lo') (e2 : (hi : Int) = hi') :
    Takes 73 #[.agg #[.pointer (some ⟨b, 0, none⟩)], .int .u64 lo', .int .u64 hi'] b s (.int .u64 (v : Int)) r := by
  obtain ⟨h0, rfl, rfl, h1, h2⟩ := gN_ok h
  exact gNumber_ok b s _ _ _ _ (by omega) (by omega) (NumS_ok b s h0)
theorem gN_x {lo hi : Nat} {s : ByteArray} {x : Nat} (h : gN lo hi s = .error x) (b : Nat) {lo' hi' : Int} (e1 : (lo : Int) = lo') (e2 : (hi : Int) = hi') :
    ∃ r, TakesP 73 #[.agg #[.pointer (some ⟨b, 0, none⟩)], .int .u64 lo', .int .u64 hi'] b s (x : Int) r := by
  unfold gN at h
  by_cases h0 : numS s ≠ 0
  · rw [if_pos h0] at h
    obtain rfl : numS s = x := by simpa using h
    exact ⟨_, gNumber_err b s s _ _ _ _ (by omega) (NumS_err b s h0)⟩
  · rw [if_neg h0] at h
    by_cases h1 : valS s < lo ∨ hi < valS s
    · rw [if_pos h1] at h
      obtain rfl : 3 = x := by simpa using h
      exact ⟨_, gNumber_form b s _ _ _ _ (by omega) (NumS_ok b s (by omega))⟩
    · rw [if_neg h1] at h; cases h
theorem PlcS_ok (b : Nat) (s : ByteArray) (h : ¬ s.size < 20) : Takes 30 #[.pointer (some ⟨b, 0, none⟩)] b s (.tuple #[idV (numOf (byteOf s) 20), .int .i64 0]) (bytesB (s.size - 20) (dropF 20 (byteOf s))) := by
  have ha : ∀ j, j < 20 → byteOf s j = dig (numOf (byteOf s) 20) j := fun j hj => by
    have := numOf_dig (byteOf s) (byteOf_lt s) 20 j hj
    unfold dig
    rw [show 19 - j = 20 - 1 - j from by omega, this]
  have := Place_ok b s.size (numOf (byteOf s) 20) (byteOf s) (by omega) ha
  rw [byteOf_eq] at this
  exact this
theorem PlcS_err (b : Nat) (s : ByteArray) (h : s.size < 20) : Takes 30 #[.pointer (some ⟨b, 0, none⟩)] b s (.tuple #[idV 0, .int .i64 4]) s := by
  have := Place_err b s.size (byteOf s) h
  rw [byteOf_eq] at this
  exact this
theorem gI_c {s r : ByteArray} {p : Nat} (h : gI s = .ok (p, r)) (b : Nat) : Takes 75 #[.agg #[.pointer (some ⟨b, 0, none⟩)]] b s (idV p) r := by
  unfold gI at h
  by_cases h0 : s.size < 20
  · rw [if_pos h0] at h; cases h
  · rw [if_neg h0] at h
    cases h
    exact gPlace_ok b s _ _ (PlcS_ok b s h0)
theorem gI_x {s : ByteArray} {x : Nat} (h : gI s = .error x) (b : Nat) : ∃ r, TakesP 75 #[.agg #[.pointer (some ⟨b, 0, none⟩)]] b s (x : Int) r := by
  unfold gI at h
  by_cases h0 : s.size < 20
  · rw [if_pos h0] at h
    obtain rfl : 4 = x := by simpa using h
    exact ⟨_, gPlace_err b s s 0 _ (by decide) (PlcS_err b s h0)⟩
  · rw [if_neg h0] at h; cases h
theorem gP_inv {s r : ByteArray} {q : Nat × Nat} (h : gP s = .ok (q, r)) : ∃ s1, gN 0 999 s = .ok (q.1, s1) ∧ gI s1 = .ok (q.2, r) := by
  unfold gP at h
  cases h1 : gN 0 999 s with
  | error x => rw [h1] at h; cases h
  | ok a =>
    rw [h1] at h
    have h2 : (gI a.2 >>= fun z => Except.ok ((a.1, z.1), z.2)) = .ok (q, r) := h
    cases h3 : gI a.2 with
    | error x => rw [h3] at h2; cases h2
    | ok z =>
      rw [h3] at h2
      cases h2
      exact ⟨a.2, rfl, h3⟩
theorem wrap_small {v : Nat} (h : v ≤ 999) : IntKind.i64.wrap (v : Int) = (v : Int) := wrap_i64 (by omega) (by omega)
theorem gP_c {s r : ByteArray} {q : Nat × Nat} (h : gP s = .ok (q, r)) (b : Nat) : Takes 74 #[.agg #[.pointer (some ⟨b, 0, none⟩)]] b s (peerV (q.1 : Int) q.2) r := by
  obtain ⟨s1, h1, h2⟩ := gP_inv h
  have := (gN_ok h1).2.2.2.2
  exact gPeer_ok b s s1 r _ _ (wrap_small this) (gN_c h1 b rfl rfl) (gI_c h2 b)
theorem gP_x {s : ByteArray} {x : Nat} (h : gP s = .error x) (b : Nat) : ∃ r, TakesP 74 #[.agg #[.pointer (some ⟨b, 0, none⟩)]] b s (x : Int) r := by
  unfold gP at h
  cases h1 : gN 0 999 s with
  | error y =>
    rw [h1] at h
    obtain rfl : y = x := by
      have h2 : (Except.error y : Except Nat ((Nat × Nat) × ByteArray)) = .error x := h
      simpa using h2
    obtain ⟨r, hr⟩ := gN_x h1 b (lo' := 0) (hi' := 999) rfl rfl
    exact ⟨r, gPeer_num b s r _ hr trivial⟩
  | ok a =>
    rw [h1] at h
    have h2 : (gI a.2 >>= fun z => Except.ok ((a.1, z.1), z.2)) = .error x := h
    cases h3 : gI a.2 with
    | error y =>
      rw [h3] at h2
      obtain rfl : y = x := by
        have h4 : (Except.error y : Except Nat ((Nat × Nat) × ByteArray)) = .error x := h2
        simpa using h4
      obtain ⟨r, hr⟩ := gI_x h3 b
      have := (gN_ok (v := a.1) (r := a.2) h1).2.2.2.2
      exact ⟨r, gPeer_plc b s a.2 r (a.1 : Int) _ (wrap_small this) (gN_c h1 b rfl rfl) hr⟩
    | ok z => rw [h3] at h2; cases h2
end Go.Proofs.Ytijkmbebfodhdaa

/- (LetU) -/
namespace Go.Proofs.Ytijkmbebfodhdaa
open Go.RowKit
set_option linter.unusedSimpArgs false
set_option linter.unusedVariables false
set_option maxHeartbeats 2000000
set_option maxRecDepth 20000
theorem elHeld : El Try.prog 117 116 2 16 (.agg #[.int .i64 0, .bool false]) := El.mk (by kernel_rfl) (by kernel_rfl)
theorem fill_held (z : Value) (b0 b1 b2 b3 b4 b5 : Bool) : Instr.fill (fun i => some (i * 2, 2)) ((Array.range (6 * 2)).map fun i => z.cells[i % z.cells.size]!) [(0, .agg #[.int .i64 1, .bool b0]), (1, .agg #[.int .i64 2, .bool b1]), (2, .agg #[.int .i64 4, .bool b2]), (3, .agg #[.int .i64 8, .bool b3]), (4, .agg #[.int .i64 16, .bool b4]), (5, .agg #[.int .i64 32, .bool b5])] =
    some #[.int .i64 1, .bool b0, .int .i64 2, .bool b1, .int .i64 4, .bool b2, .int .i64 8, .bool b3, .int .i64 16, .bool b4, .int .i64 32, .bool b5] := by
  simp [Instr.fill, Value.cells, show Array.range 12 = #[0, 1, 2, 3, 4, 5, 6, 7, 8, 9, 10, 11] from rfl]
noncomputable def heldFields : Array Field := match Try.prog.underlying 116 with | some (.struct fs) => fs | _ => #[]
theorem undHeld : Try.prog.underlying 116 = some (.struct heldFields) := by kernel_rfl
theorem sizeHeld : (Try.prog.info? 116).map (·.size) = some 2 := by kernel_rfl
theorem zeroHeld : (Try.prog.info? 116).bind (·.zero) = some (.agg #[.int .i64 0, .bool false]) := by kernel_rfl
/-- Six flags by their number. -/
def six (b0 b1 b2 b3 b4 b5 : Bool) (j : Nat) : Bool := if j = 0 then b0 else if j = 1 then b1 else if j = 2 then b2 else if j = 3 then b3 else if j = 4 then b4 else b5
/-- The sum of the bits of the first n flags. -/
def upto (b : Nat → Bool) : Nat → Nat
  | 0 => 0
  | i + 1 => upto b i + if b i then 2 ^ i else 0
theorem upto_lt (b : Nat → Bool) : ∀ i, upto b i < 2 ^ i
  | 0 => by show (0 : Nat) < 1; omega
  | i + 1 => by
    have := upto_lt b i
    unfold upto
    rw [Nat.pow_succ]
    split <;> omega
theorem or_small : ∀ i : Fin 6, ∀ a : Fin 64, a.val < 2 ^ i.val → bits .or .i64 (a.val : Int) ((2 ^ i.val : Nat) : Int) = ((a.val + 2 ^ i.val : Nat) : Int) := by decide +kernel
def heldF (b : Nat → Bool) (j : Nat) : Value := if j % 2 = 0 then .int .i64 ((2 ^ (j / 2) : Nat) : Int) else .bool (b (j / 2))
theorem held_row (b0 b1 b2 b3 b4 b5 : Bool) : (#[.int .i64 1, .bool b0, .int .i64 2, .bool b1, .int .i64 4, .bool b2, .int .i64 8, .bool b3, .int .i64 16, .bool b4, .int .i64 32, .bool b5] : Array Value) = rowOf 12 (heldF (six b0 b1 b2 b3 b4 b5)) := by
  unfold rowOf
  rfl
theorem held_at (b : Nat → Bool) (i : Nat) (hi : i < 6) (j : Nat) (v : Value) (h : (#[.int .i64 ((2 ^ i : Nat) : Int), .bool (b i)] : Array Value).toList[j]? = some v) : (rowOf 12 (heldF b))[i * 2 + j]? = some v := by
  rcases j with _ | _ | j
  · obtain rfl : Value.int .i64 ((2 ^ i : Nat) : Int) = v := by simpa using h
    rw [rowOf_get _ _ _ (by omega)]
    unfold heldF
    rw [if_pos (by omega), show (i * 2 + 0) / 2 = i by omega]
  · obtain rfl : Value.bool (b i) = v := by simpa using h
    rw [rowOf_get _ _ _ (by omega)]
    unfold heldF
    rw [if_neg (by omega), show (i * 2 + (0 + 1)) / 2 = i by omega]
  · simp at h
attribute [local irreducible] wpQuiet wpList wpAnyH Calls
theorem used_c (l : Let) (b0 b1 b2 b3 b4 b5 : Bool) (h0 : ((l.req : Int) != 0) = b0) (h1 : (!eqId l.id 0) = b1) (h2 : decide (0 < l.an) = b2) (h3 : l.done = b3) (h4 : (!samePeer l.pa l.pi (-1) 0) = b4) (h5 : decide (0 < l.pn) = b5) :
    Says 66 #[letV l] (.int .i64 ((upto (six b0 b1 b2 b3 b4 b5) 6 : Nat) : Int)) := by
  intro w
  go_enter Try.func66, Try.ntmps66
  have hm := Mem.refl w []
  go_wp2_with (with_reducible first | refine stAl ?_ | refine stBo ?_ | refine stLo ?_ | refine stSo ?_ | refine stBu ?_ | refine stBs ?_ | refine stMs ?_ | refine stAp ?_ | refine stCo ?_); refine Stop.go (wl_box (by rfl) rfl (letV_cells l) hm ?_); clear hm; intro b1' w1 hm; simp only [Act.put, k1, k2, k3]; (try simp only [rowOf_set, k1, k2, k3, Value.cells, Act.eval, k7, k8, k9, kA, Option.getD_some] at hm)
  go_wp2_with ((first | refine wpList_skip (by rfl) ?_ | (refine wlL (hm := hm) (hu := by first | exact undPeer | exact undID | exact undHeld) (hi := by (try simp only [rowOf_size, idC_size, peerC_size, letC_size]); first | exact sizePeer | exact sizeID | exact sizeHeld) (h := ?_); (try simp only [Act.put, k1, k2, k3]); (try simp only [← peerV_eq, ← idV_eq])) | (refine wlM (hm := hm) (hv := by first | exact let_id _ | exact let_from _ | exact let_peer _) (hu := by first | exact undPeer | exact undID | exact undHeld) (hi := by (try simp only [rowOf_size, idC_size, peerC_size, letC_size]); first | exact sizePeer | exact sizeID | exact sizeHeld) (h := ?_); (try simp only [Act.put, k1, k2, k3]); (try simp only [← peerV_eq, ← idV_eq])) | refine wlLC (hm := hm) (hv := by first | exact let0 _ | exact let1 _ | exact let22 _ | exact let43 _ | exact let44 _ | exact let45 _ | exact let66 _ | rfl) (hu := by first | exact undInt | exact undU64 | exact undBool | exact undIntS | exact undPeerS) (h := ?_) | (refine yS (hm := hm) (hi := by (try simp only [rowOf_size, idC_size, peerC_size, letC_size]); first | exact sizePeer | exact sizeID | exact sizeHeld) (h := ?_); clear hm; intro w1 hm; (try simp only [rowOf_set, k1, k2, k3, Value.cells, Act.eval, k7, k8, k9, kA, Option.getD_some] at hm)) | (refine wlSC (hm := hm) (hi := by first | exact sizeInt | exact sizeU64 | exact sizeBool | exact sizeIntS | exact sizePeerS) (ho := by first | decide | (simp only [rowOf_size, idC_size, peerC_size, letC_size]; omega) | (simp; done)) (h := ?_); clear hm; intro w1 hm; (try simp only [rowOf_set, k1, k2, k3, Value.cells, Act.eval, k7, k8, k9, kA, Option.getD_some] at hm)) | (refine wlA (hz := by first | exact zeroPeer | exact zeroID | exact zeroHeld) (hm := hm) (h := ?_); clear hm; intro b1 w1 hm; (try simp only [rowOf_set, k1, k2, k3, Value.cells, Act.eval, k7, k8, k9, kA, Option.getD_some] at hm)) | (refine wl_box (by rfl) rfl (by first | exact peerV_cells _ _ | exact letV_cells _ | exact idV_cells _ | rfl) hm ?_; clear hm; intro b1 w1 hm) | (go_at_call 62; refine (none_c _).mono ?_; rintro e w1 ⟨rfl, hx⟩; replace hm := hm.call hx; clear hx) | (with_reducible first | refine stBs ?_ | refine stMs ?_ | refine stAp ?_ | refine stCo ?_)); (try simp only [k4, k5, k6, Act.put, k1, k2, k3]))
  refine wp_region_held_drew (by kernel_rfl) hm.drew (fun hS => ?_); replace hm := hm.drew
  refine whS (i := 0) (hS := hS) (h := ?_)
  simp only [k4, k5, k6, Act.put, k1, k2, k3]
  refine whS (i := 1) (hS := hS) (h1 := ld_cell (i := 0) rfl rfl (let22 _) undU64 rfl) (h := ?_); simp only [k4, k5, k6, Act.put, k1, k2, k3]
  refine whS (i := 2) (hS := hS) (h := ?_)
  simp only [k4, k5, k6, Act.put, k1, k2, k3]
  refine whS (i := 3) (hS := hS) (h := ?_)
  simp only [k4, k5, k6, Act.put, k1, k2, k3]
  refine whS (i := 4) (hS := hS) (h := ?_)
  simp only [k4, k5, k6, Act.put, k1, k2, k3]
  refine whS (i := 5) (hS := hS) (h1 := ld_mid (i := 0) rfl rfl (let_id _) undID rfl (by rw [idC_size]; exact sizeID)) (h := ?_); simp only [k4, k5, k6, Act.put, k1, k2, k3]; simp only [← idV_eq]
  refine whS (i := 6) (hS := hS) (h1 := fun w _ => ld_build built_id (by simp)) (h := ?_); simp only [k4, k5, k6, Act.put, k1, k2, k3]; simp only [← idV_zero]
  refine whS (i := 7) (hS := hS) (h := ?_)
  simp only [k4, k5, k6, Act.put, k1, k2, k3]
  refine whS (i := 8) (hS := hS) (h := ?_)
  simp only [k4, k5, k6, Act.put, k1, k2, k3]
  refine whS (i := 9) (hS := hS) (h := ?_)
  simp only [k4, k5, k6, Act.put, k1, k2, k3]
  refine whS (i := 10) (hS := hS) (h1 := ld_cell (i := 0) rfl rfl (let43 _) undIntS rfl) (h := ?_); simp only [k4, k5, k6, Act.put, k1, k2, k3]
  refine whS (i := 11) (hS := hS) (h := ?_)
  simp only [k4, k5, k6, Act.put, k1, k2, k3]
  refine whS (i := 12) (hS := hS) (h := ?_)
  simp only [k4, k5, k6, Act.put, k1, k2, k3]
  refine whS (i := 13) (hS := hS) (h := ?_)
  simp only [k4, k5, k6, Act.put, k1, k2, k3]
  refine whS (i := 14) (hS := hS) (h := ?_)
  simp only [k4, k5, k6, Act.put, k1, k2, k3]
  refine whS (i := 15) (hS := hS) (h1 := ld_cell (i := 0) rfl rfl (let44 _) undBool rfl) (h := ?_); simp only [k4, k5, k6, Act.put, k1, k2, k3]
  refine whS (i := 16) (hS := hS) (h := ?_)
  simp only [k4, k5, k6, Act.put, k1, k2, k3]
  refine whS (i := 17) (hS := hS) (h := ?_)
  simp only [k4, k5, k6, Act.put, k1, k2, k3]
  refine whS (i := 18) (hS := hS) (h1 := ld_mid (i := 0) rfl rfl (let_peer _) undPeer rfl (by rw [peerC_size]; exact sizePeer)) (h := ?_); simp only [k4, k5, k6, Act.put, k1, k2, k3]; simp only [← peerV_eq]
  refine whS (i := 22) (hS := hS) (h := ?_)
  simp only [k4, k5, k6, Act.put, k1, k2, k3]
  refine whS (i := 23) (hS := hS) (h1 := ld_cell (i := 0) rfl rfl (let66 _) undPeerS rfl) (h := ?_); simp only [k4, k5, k6, Act.put, k1, k2, k3]
  refine whS (i := 24) (hS := hS) (h := ?_)
  simp only [k4, k5, k6, Act.put, k1, k2, k3]
  refine whS (i := 25) (hS := hS) (h := ?_)
  simp only [k4, k5, k6, Act.put, k1, k2, k3]
  refine whS (i := 26) (hS := hS) (h := ?_)
  simp only [k4, k5, k6, Act.put, k1, k2, k3]
  refine whS (i := 29) (hS := hS) (h := ?_)
  simp only [k4, k5, k6, Act.put, k1, k2, k3]
  refine wh_one (i := 19) (by kernel_rfl) rfl (by rfl) (fun K' hK => ?_); go_simp; refine (none_c _).mono ?_; rintro e w3 ⟨rfl, hx⟩; replace hm := hm.call hx; clear hx hS; have hS := hm; refine hK.out _ _ hS ?_; clear hK K'; (try (simp only [k4, k5, k6, Act.put, k1, k2, k3]))
  refine whS (i := 20) (hS := hS) (h := ?_)
  simp only [k4, k5, k6, Act.put, k1, k2, k3]
  refine whS (i := 21) (hS := hS) (h := ?_)
  simp only [k4, k5, k6, Act.put, k1, k2, k3]
  refine wh_one (i := 27) (by kernel_rfl) rfl (by rfl) (fun K' hK => ?_)
  refine ow_buildSlice (cells := #[.int .i64 1, .bool b0, .int .i64 2, .bool b1, .int .i64 4, .bool b2, .int .i64 8, .bool b3, .int .i64 16, .bool b4, .int .i64 32, .bool b5]) hm elHeld (by decide) (by decide) (by simp [Act.eval]) (fill_held _ _ _ _ _ _ _) ?_
  clear hm hS; intro gn w5 hm; have hS := hm.tail; refine hK.out _ _ hS ?_; clear hK K'; simp only [k4, k5, k6, Act.put, k1, k2, k3]
  refine whS (i := 28) (hS := hS) (h := ?_)
  simp only [k4, k5, k6, Act.put, k1, k2, k3]
  refine wpAnyH_done (by kernel_rfl) ?_ _
  replace hm : Mem w [] [(gn, .cells (rowOf 12 (heldF (six b0 b1 b2 b3 b4 b5))) 116 (0, 0))] w5 := by
    rw [held_row] at hm
    exact hm.erase 1
  clear h0 h1 h2 h3 h4 h5 hS
  obtain ⟨b, hb⟩ : ∃ b, six b0 b1 b2 b3 b4 b5 = b := ⟨_, rfl⟩
  rw [hb] at hm
  have HB := hid hb
  clear hb
  go_wp2_with ((first | refine wpList_skip (by rfl) ?_ | (refine wlL (hm := hm) (hu := by first | exact undPeer | exact undID | exact undHeld) (hi := by (try simp only [rowOf_size, idC_size, peerC_size, letC_size]); first | exact sizePeer | exact sizeID | exact sizeHeld) (h := ?_); (try simp only [Act.put, k1, k2, k3]); (try simp only [← peerV_eq, ← idV_eq])) | (refine wlM (hm := hm) (hv := by first | exact let_id _ | exact let_from _ | exact let_peer _) (hu := by first | exact undPeer | exact undID | exact undHeld) (hi := by (try simp only [rowOf_size, idC_size, peerC_size, letC_size]); first | exact sizePeer | exact sizeID | exact sizeHeld) (h := ?_); (try simp only [Act.put, k1, k2, k3]); (try simp only [← peerV_eq, ← idV_eq])) | refine wlLC (hm := hm) (hv := by first | exact let0 _ | exact let1 _ | exact let22 _ | exact let43 _ | exact let44 _ | exact let45 _ | exact let66 _ | rfl) (hu := by first | exact undInt | exact undU64 | exact undBool | exact undIntS | exact undPeerS) (h := ?_) | (refine yS (hm := hm) (hi := by (try simp only [rowOf_size, idC_size, peerC_size, letC_size]); first | exact sizePeer | exact sizeID | exact sizeHeld) (h := ?_); clear hm; intro w1 hm; (try simp only [rowOf_set, k1, k2, k3, Value.cells, Act.eval, k7, k8, k9, kA, Option.getD_some] at hm)) | (refine wlSC (hm := hm) (hi := by first | exact sizeInt | exact sizeU64 | exact sizeBool | exact sizeIntS | exact sizePeerS) (ho := by first | decide | (simp only [rowOf_size, idC_size, peerC_size, letC_size]; omega) | (simp; done)) (h := ?_); clear hm; intro w1 hm; (try simp only [rowOf_set, k1, k2, k3, Value.cells, Act.eval, k7, k8, k9, kA, Option.getD_some] at hm)) | (refine wlA (hz := by first | exact zeroPeer | exact zeroID | exact zeroHeld) (hm := hm) (h := ?_); clear hm; intro b1 w1 hm; (try simp only [rowOf_set, k1, k2, k3, Value.cells, Act.eval, k7, k8, k9, kA, Option.getD_some] at hm)) | (refine wl_box (by rfl) rfl (by first | exact peerV_cells _ _ | exact letV_cells _ | exact idV_cells _ | rfl) hm ?_; clear hm; intro b1 w1 hm) | (go_at_call 62; refine (none_c _).mono ?_; rintro e w1 ⟨rfl, hx⟩; replace hm := hm.call hx; clear hx) | (with_reducible first | refine stBs ?_ | refine stMs ?_ | refine stAp ?_ | refine stCo ?_)); (try simp only [k4, k5, k6, Act.put, k1, k2, k3]))
  go_loopw [3, 35] (fun v3 vi wr => ∃ i : Nat, i ≤ 6 ∧ v3 = .int .i64 ((upto b i : Nat) : Int) ∧ vi = .int .i64 (i : Int) ∧ Mem w [] [(gn, .cells (rowOf 12 (heldF b)) 116 (0, 0))] wr) (fun _ vi _ => (6 - intOf vi).toNat)
  case atStart => exact ⟨0, by omega, rfl, rfl, hm⟩
  case round =>
    clear hm
    obtain ⟨i, hi, rfl, rfl, hm⟩ := hrel
    by_cases hin : i < 6
    · have e1 : (i : Int) < 6 := by omega
      have e2 : (0 : Int) ≤ (i : Int) := by omega
      have g9 : IntKind.i64.wrap ((i : Int) + 1) = (i : Int) + 1 := wrap_i64 (by omega) (by omega)
      obtain ⟨p, hp⟩ : ∃ p, 2 ^ i = p := ⟨_, rfl⟩
      obtain ⟨f, hf⟩ : ∃ f, b i = f := ⟨_, rfl⟩
      have hrow := held_at b i hin
      rw [hp, hf] at hrow
      go_wp2_with (with_reducible first | refine stAl ?_ | refine stBo ?_ | refine stLo ?_ | refine stSo ?_ | refine stBu ?_ | refine stBs ?_ | refine stMs ?_ | refine stAp ?_ | refine stCo ?_)
      refine Stop.go (wlM (i := 0) (cs' := #[.int .i64 (p : Int), .bool f]) (hm := hm) (hL := at0) (hv := by first | exact hrow | simpa using hrow) (hu := undHeld) (hi := sizeHeld) (h := ?_)); simp only [Act.put, k1, k2, k3]
      go_wp2_with (with_reducible first | refine stAl ?_ | refine stBo ?_ | refine stLo ?_ | refine stSo ?_ | refine stBu ?_ | refine stBs ?_ | refine stMs ?_ | refine stAp ?_ | refine stCo ?_); refine Stop.go (wl_alloc (by rfl) zeroHeld rfl hm ?_); clear hm; intro hb w6 hm; simp only [Act.put, k1, k2, k3]; (try simp only [rowOf_set, k1, k2, k3, Value.cells, Act.eval, k7, k8, k9, kA, Option.getD_some] at hm)
      go_wp2_with (with_reducible first | refine stAl ?_ | refine stBo ?_ | refine stLo ?_ | refine stSo ?_ | refine stBu ?_ | refine stBs ?_ | refine stMs ?_ | refine stAp ?_ | refine stCo ?_); refine Stop.go (wl_store (i := 0) (by rfl) hm rfl rfl rfl (by first | rfl | exact idV_eq _ | exact peerV_eq _ _ | exact letV_eq _) (by first | exact sizeHeld | (simp only [rowOf_size, idC_size, peerC_size, letC_size]; exact sizeHeld)) (by first | (simp only [rowOf_size, idC_size, peerC_size, letC_size]; done) | rfl) (by first | exact peerC_one _ _ | rfl | (simp only [List.size_toArray, List.length_cons, List.all_toArray', List.all_cons, List.all_nil, Value.oneCell', Bool.and_true, Bool.and_self]; done) | (simp [Value.oneCell']; done) | exact rowOf_one _ _ (fun _ _ => rfl) | exact idC_one _ | (exact rowOf_one _ _ (by intro i _; repeat (first | rfl | split)))) ?_); clear hm; intro w7 hm; simp only [Act.put, k1, k2, k3]; simp only [rowOf_set, k1, k2, k3, Value.cells, Act.eval, k7, k8, k9, kA, Option.getD_some] at hm
      cases f
      · go_wp2_with ((first | refine wpList_skip (by rfl) ?_ | (refine wlL (hm := hm) (hu := by first | exact undPeer | exact undID | exact undHeld) (hi := by (try simp only [rowOf_size, idC_size, peerC_size, letC_size]); first | exact sizePeer | exact sizeID | exact sizeHeld) (h := ?_); (try simp only [Act.put, k1, k2, k3]); (try simp only [← peerV_eq, ← idV_eq])) | (refine wlM (hm := hm) (hv := by first | exact let_id _ | exact let_from _ | exact let_peer _) (hu := by first | exact undPeer | exact undID | exact undHeld) (hi := by (try simp only [rowOf_size, idC_size, peerC_size, letC_size]); first | exact sizePeer | exact sizeID | exact sizeHeld) (h := ?_); (try simp only [Act.put, k1, k2, k3]); (try simp only [← peerV_eq, ← idV_eq])) | refine wlLC (hm := hm) (hv := by first | exact let0 _ | exact let1 _ | exact let22 _ | exact let43 _ | exact let44 _ | exact let45 _ | exact let66 _ | rfl) (hu := by first | exact undInt | exact undU64 | exact undBool | exact undIntS | exact undPeerS) (h := ?_) | (refine yS (hm := hm) (hi := by (try simp only [rowOf_size, idC_size, peerC_size, letC_size]); first | exact sizePeer | exact sizeID | exact sizeHeld) (h := ?_); clear hm; intro w1 hm; (try simp only [rowOf_set, k1, k2, k3, Value.cells, Act.eval, k7, k8, k9, kA, Option.getD_some] at hm)) | (refine wlSC (hm := hm) (hi := by first | exact sizeInt | exact sizeU64 | exact sizeBool | exact sizeIntS | exact sizePeerS) (ho := by first | decide | (simp only [rowOf_size, idC_size, peerC_size, letC_size]; omega) | (simp; done)) (h := ?_); clear hm; intro w1 hm; (try simp only [rowOf_set, k1, k2, k3, Value.cells, Act.eval, k7, k8, k9, kA, Option.getD_some] at hm)) | (refine wlA (hz := by first | exact zeroPeer | exact zeroID | exact zeroHeld) (hm := hm) (h := ?_); clear hm; intro b1 w1 hm; (try simp only [rowOf_set, k1, k2, k3, Value.cells, Act.eval, k7, k8, k9, kA, Option.getD_some] at hm)) | (refine wl_box (by rfl) rfl (by first | exact peerV_cells _ _ | exact letV_cells _ | exact idV_cells _ | rfl) hm ?_; clear hm; intro b1 w1 hm) | (go_at_call 62; refine (none_c _).mono ?_; rintro e w1 ⟨rfl, hx⟩; replace hm := hm.call hx; clear hx) | (with_reducible first | refine stBs ?_ | refine stMs ?_ | refine stAp ?_ | refine stCo ?_)); (try simp only [k4, k5, k6, Act.put, k1, k2, k3]))
        go_roundw
        case rel => exact ⟨i + 1, by omega, by show Value.int .i64 _ = Value.int .i64 ((upto b i + (if b i then 2 ^ i else 0) : Nat) : Int); rw [hf]; rfl, by go_num, hm.erase 0⟩
        case measure => (simp [intOf]; try omega)
      · go_wp2_with ((first | refine wpList_skip (by rfl) ?_ | (refine wlL (hm := hm) (hu := by first | exact undPeer | exact undID | exact undHeld) (hi := by (try simp only [rowOf_size, idC_size, peerC_size, letC_size]); first | exact sizePeer | exact sizeID | exact sizeHeld) (h := ?_); (try simp only [Act.put, k1, k2, k3]); (try simp only [← peerV_eq, ← idV_eq])) | (refine wlM (hm := hm) (hv := by first | exact let_id _ | exact let_from _ | exact let_peer _) (hu := by first | exact undPeer | exact undID | exact undHeld) (hi := by (try simp only [rowOf_size, idC_size, peerC_size, letC_size]); first | exact sizePeer | exact sizeID | exact sizeHeld) (h := ?_); (try simp only [Act.put, k1, k2, k3]); (try simp only [← peerV_eq, ← idV_eq])) | refine wlLC (hm := hm) (hv := by first | exact let0 _ | exact let1 _ | exact let22 _ | exact let43 _ | exact let44 _ | exact let45 _ | exact let66 _ | rfl) (hu := by first | exact undInt | exact undU64 | exact undBool | exact undIntS | exact undPeerS) (h := ?_) | (refine yS (hm := hm) (hi := by (try simp only [rowOf_size, idC_size, peerC_size, letC_size]); first | exact sizePeer | exact sizeID | exact sizeHeld) (h := ?_); clear hm; intro w1 hm; (try simp only [rowOf_set, k1, k2, k3, Value.cells, Act.eval, k7, k8, k9, kA, Option.getD_some] at hm)) | (refine wlSC (hm := hm) (hi := by first | exact sizeInt | exact sizeU64 | exact sizeBool | exact sizeIntS | exact sizePeerS) (ho := by first | decide | (simp only [rowOf_size, idC_size, peerC_size, letC_size]; omega) | (simp; done)) (h := ?_); clear hm; intro w1 hm; (try simp only [rowOf_set, k1, k2, k3, Value.cells, Act.eval, k7, k8, k9, kA, Option.getD_some] at hm)) | (refine wlA (hz := by first | exact zeroPeer | exact zeroID | exact zeroHeld) (hm := hm) (h := ?_); clear hm; intro b1 w1 hm; (try simp only [rowOf_set, k1, k2, k3, Value.cells, Act.eval, k7, k8, k9, kA, Option.getD_some] at hm)) | (refine wl_box (by rfl) rfl (by first | exact peerV_cells _ _ | exact letV_cells _ | exact idV_cells _ | rfl) hm ?_; clear hm; intro b1 w1 hm) | (go_at_call 62; refine (none_c _).mono ?_; rintro e w1 ⟨rfl, hx⟩; replace hm := hm.call hx; clear hx) | (with_reducible first | refine stBs ?_ | refine stMs ?_ | refine stAp ?_ | refine stCo ?_)); (try simp only [k4, k5, k6, Act.put, k1, k2, k3]))
        go_roundw
        case rel =>
          refine ⟨i + 1, by omega, ?_, by go_num, hm.erase 0⟩
          have h6 := upto_lt b i
          have h7 : 2 ^ i ≤ 2 ^ 6 := Nat.pow_le_pow_right (by omega) hi
          have := or_small ⟨i, hin⟩ ⟨upto b i, by omega⟩ h6
          show Value.int .i64 _ = Value.int .i64 ((upto b i + (if b i then 2 ^ i else 0) : Nat) : Int)
          rw [hf, if_pos rfl, ← hp]
          exact congrArg (Value.int .i64) this
        case measure => (simp [intOf]; try omega)
    · obtain rfl : i = 6 := by omega
      go_wp2_with ((first | refine wpList_skip (by rfl) ?_ | (refine wlL (hm := hm) (hu := by first | exact undPeer | exact undID | exact undHeld) (hi := by (try simp only [rowOf_size, idC_size, peerC_size, letC_size]); first | exact sizePeer | exact sizeID | exact sizeHeld) (h := ?_); (try simp only [Act.put, k1, k2, k3]); (try simp only [← peerV_eq, ← idV_eq])) | (refine wlM (hm := hm) (hv := by first | exact let_id _ | exact let_from _ | exact let_peer _) (hu := by first | exact undPeer | exact undID | exact undHeld) (hi := by (try simp only [rowOf_size, idC_size, peerC_size, letC_size]); first | exact sizePeer | exact sizeID | exact sizeHeld) (h := ?_); (try simp only [Act.put, k1, k2, k3]); (try simp only [← peerV_eq, ← idV_eq])) | refine wlLC (hm := hm) (hv := by first | exact let0 _ | exact let1 _ | exact let22 _ | exact let43 _ | exact let44 _ | exact let45 _ | exact let66 _ | rfl) (hu := by first | exact undInt | exact undU64 | exact undBool | exact undIntS | exact undPeerS) (h := ?_) | (refine yS (hm := hm) (hi := by (try simp only [rowOf_size, idC_size, peerC_size, letC_size]); first | exact sizePeer | exact sizeID | exact sizeHeld) (h := ?_); clear hm; intro w1 hm; (try simp only [rowOf_set, k1, k2, k3, Value.cells, Act.eval, k7, k8, k9, kA, Option.getD_some] at hm)) | (refine wlSC (hm := hm) (hi := by first | exact sizeInt | exact sizeU64 | exact sizeBool | exact sizeIntS | exact sizePeerS) (ho := by first | decide | (simp only [rowOf_size, idC_size, peerC_size, letC_size]; omega) | (simp; done)) (h := ?_); clear hm; intro w1 hm; (try simp only [rowOf_set, k1, k2, k3, Value.cells, Act.eval, k7, k8, k9, kA, Option.getD_some] at hm)) | (refine wlA (hz := by first | exact zeroPeer | exact zeroID | exact zeroHeld) (hm := hm) (h := ?_); clear hm; intro b1 w1 hm; (try simp only [rowOf_set, k1, k2, k3, Value.cells, Act.eval, k7, k8, k9, kA, Option.getD_some] at hm)) | (refine wl_box (by rfl) rfl (by first | exact peerV_cells _ _ | exact letV_cells _ | exact idV_cells _ | rfl) hm ?_; clear hm; intro b1 w1 hm) | (go_at_call 62; refine (none_c _).mono ?_; rintro e w1 ⟨rfl, hx⟩; replace hm := hm.call hx; clear hx) | (with_reducible first | refine stBs ?_ | refine stMs ?_ | refine stAp ?_ | refine stCo ?_)); (try simp only [k4, k5, k6, Act.put, k1, k2, k3]))
      go_ret
      exact ⟨by rw [HB.out]; rfl, hm.ext⟩
end Go.Proofs.Ytijkmbebfodhdaa

/- (LetV) -/
namespace Go.Proofs.Ytijkmbebfodhdaa
open Go.RowKit
set_option linter.unusedSimpArgs false
set_option linter.unusedVariables false
set_option maxHeartbeats 2000000
set_option maxRecDepth 20000
attribute [local irreducible] wpQuiet wpList wpAnyH Calls
theorem containsInt_q {c : Option Addr} {n cap : Nat} {z : Nat → Int} {q : Bool} (hq : anyOdd z n = q) (hn : n < 2 ^ 62) (w : World) (h : IntsV w c n z) :
    Calls Try.prog 68 #[.slice c n cap, .func (.func 67) #[] #[]] w fun e w' => e = .returned (.bool q) ∧ Ext w w' := by
  rw [← hq]; exact containsInt_c c n cap z hn w h
theorem containsPeer_q {c : Option Addr} {n cap : Nat} {za : Nat → Int} {zp : Nat → Nat} {q : Bool} (hq : anyOdd za n = q) (hn : n < 2 ^ 62) (w : World) (h : PeersV w c n za zp) :
    Calls Try.prog 69 #[.slice c n cap, .func (.func 70) #[] #[]] w fun e w' => e = .returned (.bool q) ∧ Ext w w' := by
  rw [← hq]; exact containsPeer_c c n cap za zp hn w h
/-- What a letter is to be. -/
def isB (kd ua fo a16 p8 nn f2 po oa op : Bool) : Bool := kd && (!ua && (!fo && (!a16 && (!p8 && (!(nn && f2) && (!(!nn && po) && (!oa && !op)))))))
theorem is_walk (l : Let) (r : Rows5) (hn : l.an < 2 ^ 62) (hp : l.pn < 2 ^ 62) (kd ua fo a16 p8 nn f2 po oa op : Bool) (U H : Int)
    (hparts : Says 58 #[.int .i64 l.kind] (.tuple #[.int .i64 H, .bool kd])) (hused : Says 66 #[letV l] (.int .i64 U))
    (hfo : Says 67 #[.int .i64 l.fa] (.bool fo)) (hpo : Says 67 #[.int .i64 l.pa] (.bool po))
    (hua : (bits .andNot .i64 U H != 0) = ua) (ha : decide (16 < l.an) = a16) (ha' : decide ((16 : Int) < (l.an : Int)) = a16) (hq : decide (8 < l.pn) = p8) (hq' : decide ((8 : Int) < (l.pn : Int)) = p8)
    (hnn : samePeer l.pa l.pi (-1) 0 = nn) (hk2 : (l.kind == 2) = f2) (hoa : anyOdd r.av l.an = oa) (hop : anyOdd r.pa l.pn = op) (w : World) (hl : LetAt w l r) :
    Calls Try.prog 39 #[letV l] w fun e w' => e = .returned (.bool (isB kd ua fo a16 p8 nn f2 po oa op)) ∧ Ext w w' := by
  have H1 := hid hl.1
  have H2 := hid hl.2
  clear hl
  go_enter Try.func39, Try.ntmps39
  have hm := Mem.refl w []
  go_wp2_with (with_reducible first | refine stAl ?_ | refine stBo ?_ | refine stLo ?_ | refine stSo ?_ | refine stBu ?_ | refine stBs ?_ | refine stMs ?_ | refine stAp ?_ | refine stCo ?_); refine Stop.go (wl_box (by rfl) rfl (letV_cells l) hm ?_); clear hm; intro b1 w1 hm; simp only [Act.put, k1, k2, k3]; (try simp only [rowOf_set, k1, k2, k3, Value.cells, Act.eval, k7, k8, k9, kA, Option.getD_some] at hm)
  go_wp2_with ((first | refine wpList_skip (by rfl) ?_ | (refine wlL (hm := hm) (hu := by first | exact undPeer | exact undID | exact undLetter) (hi := by (try simp only [rowOf_size, idC_size, peerC_size, letC_size]); first | exact sizePeer | exact sizeID | exact sizeLetter) (h := ?_); (try simp only [Act.put, k1, k2, k3]); (try simp only [← peerV_eq, ← idV_eq, ← letV_eq])) | (refine wlM (hm := hm) (hv := by first | exact let_id _ | exact let_from _ | exact let_peer _) (hu := by first | exact undPeer | exact undID | exact undLetter) (hi := by (try simp only [rowOf_size, idC_size, peerC_size, letC_size]); first | exact sizePeer | exact sizeID | exact sizeLetter) (h := ?_); (try simp only [Act.put, k1, k2, k3]); (try simp only [← peerV_eq, ← idV_eq, ← letV_eq])) | refine wlLC (hm := hm) (hv := by first | exact let0 _ | exact let1 _ | exact let22 _ | exact let43 _ | exact let44 _ | exact let45 _ | exact let66 _ | rfl) (hu := by first | exact undInt | exact undU64 | exact undBool | exact undIntS | exact undPeerS) (h := ?_) | (refine yS (hm := hm) (hi := by (try simp only [rowOf_size, idC_size, peerC_size, letC_size]); first | exact sizePeer | exact sizeID | exact sizeLetter) (h := ?_); clear hm; intro w1 hm; (try simp only [rowOf_set, k1, k2, k3, Value.cells, Act.eval, k7, k8, k9, kA, Option.getD_some] at hm)) | (refine wlSC (hm := hm) (hi := by first | exact sizeInt | exact sizeU64 | exact sizeBool | exact sizeIntS | exact sizePeerS) (ho := by first | decide | (simp only [rowOf_size, idC_size, peerC_size, letC_size]; omega) | (simp; done)) (h := ?_); clear hm; intro w1 hm; (try simp only [rowOf_set, k1, k2, k3, Value.cells, Act.eval, k7, k8, k9, kA, Option.getD_some] at hm)) | (refine wlA (hz := by first | exact zeroPeer | exact zeroID | exact zeroLetter) (hm := hm) (h := ?_); clear hm; intro b1 w1 hm; (try simp only [rowOf_set, k1, k2, k3, Value.cells, Act.eval, k7, k8, k9, kA, Option.getD_some] at hm)) | (refine wl_box (by rfl) rfl (by first | exact peerV_cells _ _ | exact letV_cells _ | exact idV_cells _ | rfl) hm ?_; clear hm; intro b1 w1 hm) | (go_at_call 62; refine (none_c _).mono ?_; rintro e w1 ⟨rfl, hx⟩; replace hm := hm.call hx; clear hx) | (go_at_call 58; refine (hparts _).mono ?_; rintro e w1 ⟨rfl, hx⟩; replace hm := hm.call hx; clear hx) | (go_at_call 66; refine (hused _).mono ?_; rintro e w1 ⟨rfl, hx⟩; replace hm := hm.call hx; clear hx) | (go_at_call 67; refine (hfo _).mono ?_; rintro e w1 ⟨rfl, hx⟩; replace hm := hm.call hx; clear hx) | (go_at_call 67; refine (hpo _).mono ?_; rintro e w1 ⟨rfl, hx⟩; replace hm := hm.call hx; clear hx) | (go_at_call 68; refine (containsInt_q hoa hn _ (H1.out.old hm)).mono ?_; rintro e w1 ⟨rfl, hx⟩; replace hm := hm.call hx; clear hx) | (go_at_call 69; refine (containsPeer_q hop hp _ (H2.out.old hm)).mono ?_; rintro e w1 ⟨rfl, hx⟩; replace hm := hm.call hx; clear hx) | (with_reducible first | refine stBs ?_ | refine stMs ?_ | refine stAp ?_ | refine stCo ?_)); (try simp only [k4, k5, k6, Act.put, k1, k2, k3]))
  refine wp_quiet_mem (by kernel_rfl) (by kernel_rfl) hm ?_
  repeat ((first | refine wq_skip (by rfl) ?_ | (refine wqL (hu := by first | exact undPeer | exact undID | exact undLetter) (hi := by (try simp only [rowOf_size, idC_size, peerC_size, letC_size]); first | exact sizePeer | exact sizeID | exact sizeLetter) (h := ?_); (try simp only [Act.put, k1, k2, k3]); (try simp only [← peerV_eq, ← idV_eq, ← letV_eq])) | (refine wqM (hv := by first | exact let_id _ | exact let_from _ | exact let_peer _) (hu := by first | exact undPeer | exact undID | exact undLetter) (hi := by (try simp only [rowOf_size, idC_size, peerC_size, letC_size]); first | exact sizePeer | exact sizeID | exact sizeLetter) (h := ?_); (try simp only [Act.put, k1, k2, k3]); (try simp only [← peerV_eq, ← idV_eq, ← letV_eq])) | refine wqLC (hv := by first | exact let0 _ | exact let1 _ | exact let22 _ | exact let43 _ | exact let44 _ | exact let45 _ | exact let66 _ | rfl) (hu := by first | exact undInt | exact undU64 | exact undBool | exact undIntS | exact undPeerS) (h := ?_) | ((with_reducible show wpQuiet _ _ _ _ (⟨_, .call _, _, _, _, _⟩ :: _) _); refine wq_ask (by rfl) ?_; apply Exists.intro; refine ⟨?_, ?_⟩; (focus (intro w hC; go_simp; first | (go_at_call 62; exact (none_c _).mono fun e w' h => ⟨h.1, hC.call h.2⟩) | (go_at_call 58; exact (hparts _).mono fun e w' h => ⟨h.1, hC.call h.2⟩) | (go_at_call 66; exact (hused _).mono fun e w' h => ⟨h.1, hC.call h.2⟩) | (go_at_call 67; exact (hfo _).mono fun e w' h => ⟨h.1, hC.call h.2⟩) | (go_at_call 67; exact (hpo _).mono fun e w' h => ⟨h.1, hC.call h.2⟩) | (go_at_call 68; exact (containsInt_q hoa hn _ (H1.out.old hm)).mono fun e w' h => ⟨h.1, hC.call h.2⟩) | (go_at_call 69; exact (containsPeer_q hop hp _ (H2.out.old hm)).mono fun e w' h => ⟨h.1, hC.call h.2⟩)))) | refine wqS (h := ?_)); (try simp only [k4, k5, k6, Act.put, k1, k2, k3]))
  refine wpQuiet_nil ?_; clear hm; intro w2 hm
  rcases kd with _ | _
  · go_wp2_with ((first | refine wpList_skip (by rfl) ?_ | (refine wlL (hm := hm) (hu := by first | exact undPeer | exact undID | exact undLetter) (hi := by (try simp only [rowOf_size, idC_size, peerC_size, letC_size]); first | exact sizePeer | exact sizeID | exact sizeLetter) (h := ?_); (try simp only [Act.put, k1, k2, k3]); (try simp only [← peerV_eq, ← idV_eq, ← letV_eq])) | (refine wlM (hm := hm) (hv := by first | exact let_id _ | exact let_from _ | exact let_peer _) (hu := by first | exact undPeer | exact undID | exact undLetter) (hi := by (try simp only [rowOf_size, idC_size, peerC_size, letC_size]); first | exact sizePeer | exact sizeID | exact sizeLetter) (h := ?_); (try simp only [Act.put, k1, k2, k3]); (try simp only [← peerV_eq, ← idV_eq, ← letV_eq])) | refine wlLC (hm := hm) (hv := by first | exact let0 _ | exact let1 _ | exact let22 _ | exact let43 _ | exact let44 _ | exact let45 _ | exact let66 _ | rfl) (hu := by first | exact undInt | exact undU64 | exact undBool | exact undIntS | exact undPeerS) (h := ?_) | (refine yS (hm := hm) (hi := by (try simp only [rowOf_size, idC_size, peerC_size, letC_size]); first | exact sizePeer | exact sizeID | exact sizeLetter) (h := ?_); clear hm; intro w1 hm; (try simp only [rowOf_set, k1, k2, k3, Value.cells, Act.eval, k7, k8, k9, kA, Option.getD_some] at hm)) | (refine wlSC (hm := hm) (hi := by first | exact sizeInt | exact sizeU64 | exact sizeBool | exact sizeIntS | exact sizePeerS) (ho := by first | decide | (simp only [rowOf_size, idC_size, peerC_size, letC_size]; omega) | (simp; done)) (h := ?_); clear hm; intro w1 hm; (try simp only [rowOf_set, k1, k2, k3, Value.cells, Act.eval, k7, k8, k9, kA, Option.getD_some] at hm)) | (refine wlA (hz := by first | exact zeroPeer | exact zeroID | exact zeroLetter) (hm := hm) (h := ?_); clear hm; intro b1 w1 hm; (try simp only [rowOf_set, k1, k2, k3, Value.cells, Act.eval, k7, k8, k9, kA, Option.getD_some] at hm)) | (refine wl_box (by rfl) rfl (by first | exact peerV_cells _ _ | exact letV_cells _ | exact idV_cells _ | rfl) hm ?_; clear hm; intro b1 w1 hm) | (go_at_call 62; refine (none_c _).mono ?_; rintro e w1 ⟨rfl, hx⟩; replace hm := hm.call hx; clear hx) | (go_at_call 58; refine (hparts _).mono ?_; rintro e w1 ⟨rfl, hx⟩; replace hm := hm.call hx; clear hx) | (go_at_call 66; refine (hused _).mono ?_; rintro e w1 ⟨rfl, hx⟩; replace hm := hm.call hx; clear hx) | (go_at_call 67; refine (hfo _).mono ?_; rintro e w1 ⟨rfl, hx⟩; replace hm := hm.call hx; clear hx) | (go_at_call 67; refine (hpo _).mono ?_; rintro e w1 ⟨rfl, hx⟩; replace hm := hm.call hx; clear hx) | (go_at_call 68; refine (containsInt_q hoa hn _ (H1.out.old hm)).mono ?_; rintro e w1 ⟨rfl, hx⟩; replace hm := hm.call hx; clear hx) | (go_at_call 69; refine (containsPeer_q hop hp _ (H2.out.old hm)).mono ?_; rintro e w1 ⟨rfl, hx⟩; replace hm := hm.call hx; clear hx) | (with_reducible first | refine stBs ?_ | refine stMs ?_ | refine stAp ?_ | refine stCo ?_)); (try simp only [k4, k5, k6, Act.put, k1, k2, k3]))
    go_ret
    exact ⟨rfl, hm.ext⟩
  rcases ua with _ | _
  rotate_left
  · go_wp2_with ((first | refine wpList_skip (by rfl) ?_ | (refine wlL (hm := hm) (hu := by first | exact undPeer | exact undID | exact undLetter) (hi := by (try simp only [rowOf_size, idC_size, peerC_size, letC_size]); first | exact sizePeer | exact sizeID | exact sizeLetter) (h := ?_); (try simp only [Act.put, k1, k2, k3]); (try simp only [← peerV_eq, ← idV_eq, ← letV_eq])) | (refine wlM (hm := hm) (hv := by first | exact let_id _ | exact let_from _ | exact let_peer _) (hu := by first | exact undPeer | exact undID | exact undLetter) (hi := by (try simp only [rowOf_size, idC_size, peerC_size, letC_size]); first | exact sizePeer | exact sizeID | exact sizeLetter) (h := ?_); (try simp only [Act.put, k1, k2, k3]); (try simp only [← peerV_eq, ← idV_eq, ← letV_eq])) | refine wlLC (hm := hm) (hv := by first | exact let0 _ | exact let1 _ | exact let22 _ | exact let43 _ | exact let44 _ | exact let45 _ | exact let66 _ | rfl) (hu := by first | exact undInt | exact undU64 | exact undBool | exact undIntS | exact undPeerS) (h := ?_) | (refine yS (hm := hm) (hi := by (try simp only [rowOf_size, idC_size, peerC_size, letC_size]); first | exact sizePeer | exact sizeID | exact sizeLetter) (h := ?_); clear hm; intro w1 hm; (try simp only [rowOf_set, k1, k2, k3, Value.cells, Act.eval, k7, k8, k9, kA, Option.getD_some] at hm)) | (refine wlSC (hm := hm) (hi := by first | exact sizeInt | exact sizeU64 | exact sizeBool | exact sizeIntS | exact sizePeerS) (ho := by first | decide | (simp only [rowOf_size, idC_size, peerC_size, letC_size]; omega) | (simp; done)) (h := ?_); clear hm; intro w1 hm; (try simp only [rowOf_set, k1, k2, k3, Value.cells, Act.eval, k7, k8, k9, kA, Option.getD_some] at hm)) | (refine wlA (hz := by first | exact zeroPeer | exact zeroID | exact zeroLetter) (hm := hm) (h := ?_); clear hm; intro b1 w1 hm; (try simp only [rowOf_set, k1, k2, k3, Value.cells, Act.eval, k7, k8, k9, kA, Option.getD_some] at hm)) | (refine wl_box (by rfl) rfl (by first | exact peerV_cells _ _ | exact letV_cells _ | exact idV_cells _ | rfl) hm ?_; clear hm; intro b1 w1 hm) | (go_at_call 62; refine (none_c _).mono ?_; rintro e w1 ⟨rfl, hx⟩; replace hm := hm.call hx; clear hx) | (go_at_call 58; refine (hparts _).mono ?_; rintro e w1 ⟨rfl, hx⟩; replace hm := hm.call hx; clear hx) | (go_at_call 66; refine (hused _).mono ?_; rintro e w1 ⟨rfl, hx⟩; replace hm := hm.call hx; clear hx) | (go_at_call 67; refine (hfo _).mono ?_; rintro e w1 ⟨rfl, hx⟩; replace hm := hm.call hx; clear hx) | (go_at_call 67; refine (hpo _).mono ?_; rintro e w1 ⟨rfl, hx⟩; replace hm := hm.call hx; clear hx) | (go_at_call 68; refine (containsInt_q hoa hn _ (H1.out.old hm)).mono ?_; rintro e w1 ⟨rfl, hx⟩; replace hm := hm.call hx; clear hx) | (go_at_call 69; refine (containsPeer_q hop hp _ (H2.out.old hm)).mono ?_; rintro e w1 ⟨rfl, hx⟩; replace hm := hm.call hx; clear hx) | (with_reducible first | refine stBs ?_ | refine stMs ?_ | refine stAp ?_ | refine stCo ?_)); (try simp only [k4, k5, k6, Act.put, k1, k2, k3]))
    go_ret
    exact ⟨rfl, hm.ext⟩
  rcases fo with _ | _
  rotate_left
  · go_wp2_with ((first | refine wpList_skip (by rfl) ?_ | (refine wlL (hm := hm) (hu := by first | exact undPeer | exact undID | exact undLetter) (hi := by (try simp only [rowOf_size, idC_size, peerC_size, letC_size]); first | exact sizePeer | exact sizeID | exact sizeLetter) (h := ?_); (try simp only [Act.put, k1, k2, k3]); (try simp only [← peerV_eq, ← idV_eq, ← letV_eq])) | (refine wlM (hm := hm) (hv := by first | exact let_id _ | exact let_from _ | exact let_peer _) (hu := by first | exact undPeer | exact undID | exact undLetter) (hi := by (try simp only [rowOf_size, idC_size, peerC_size, letC_size]); first | exact sizePeer | exact sizeID | exact sizeLetter) (h := ?_); (try simp only [Act.put, k1, k2, k3]); (try simp only [← peerV_eq, ← idV_eq, ← letV_eq])) | refine wlLC (hm := hm) (hv := by first | exact let0 _ | exact let1 _ | exact let22 _ | exact let43 _ | exact let44 _ | exact let45 _ | exact let66 _ | rfl) (hu := by first | exact undInt | exact undU64 | exact undBool | exact undIntS | exact undPeerS) (h := ?_) | (refine yS (hm := hm) (hi := by (try simp only [rowOf_size, idC_size, peerC_size, letC_size]); first | exact sizePeer | exact sizeID | exact sizeLetter) (h := ?_); clear hm; intro w1 hm; (try simp only [rowOf_set, k1, k2, k3, Value.cells, Act.eval, k7, k8, k9, kA, Option.getD_some] at hm)) | (refine wlSC (hm := hm) (hi := by first | exact sizeInt | exact sizeU64 | exact sizeBool | exact sizeIntS | exact sizePeerS) (ho := by first | decide | (simp only [rowOf_size, idC_size, peerC_size, letC_size]; omega) | (simp; done)) (h := ?_); clear hm; intro w1 hm; (try simp only [rowOf_set, k1, k2, k3, Value.cells, Act.eval, k7, k8, k9, kA, Option.getD_some] at hm)) | (refine wlA (hz := by first | exact zeroPeer | exact zeroID | exact zeroLetter) (hm := hm) (h := ?_); clear hm; intro b1 w1 hm; (try simp only [rowOf_set, k1, k2, k3, Value.cells, Act.eval, k7, k8, k9, kA, Option.getD_some] at hm)) | (refine wl_box (by rfl) rfl (by first | exact peerV_cells _ _ | exact letV_cells _ | exact idV_cells _ | rfl) hm ?_; clear hm; intro b1 w1 hm) | (go_at_call 62; refine (none_c _).mono ?_; rintro e w1 ⟨rfl, hx⟩; replace hm := hm.call hx; clear hx) | (go_at_call 58; refine (hparts _).mono ?_; rintro e w1 ⟨rfl, hx⟩; replace hm := hm.call hx; clear hx) | (go_at_call 66; refine (hused _).mono ?_; rintro e w1 ⟨rfl, hx⟩; replace hm := hm.call hx; clear hx) | (go_at_call 67; refine (hfo _).mono ?_; rintro e w1 ⟨rfl, hx⟩; replace hm := hm.call hx; clear hx) | (go_at_call 67; refine (hpo _).mono ?_; rintro e w1 ⟨rfl, hx⟩; replace hm := hm.call hx; clear hx) | (go_at_call 68; refine (containsInt_q hoa hn _ (H1.out.old hm)).mono ?_; rintro e w1 ⟨rfl, hx⟩; replace hm := hm.call hx; clear hx) | (go_at_call 69; refine (containsPeer_q hop hp _ (H2.out.old hm)).mono ?_; rintro e w1 ⟨rfl, hx⟩; replace hm := hm.call hx; clear hx) | (with_reducible first | refine stBs ?_ | refine stMs ?_ | refine stAp ?_ | refine stCo ?_)); (try simp only [k4, k5, k6, Act.put, k1, k2, k3]))
    go_ret
    exact ⟨rfl, hm.ext⟩
  rcases a16 with _ | _
  rotate_left
  · go_wp2_with ((first | refine wpList_skip (by rfl) ?_ | (refine wlL (hm := hm) (hu := by first | exact undPeer | exact undID | exact undLetter) (hi := by (try simp only [rowOf_size, idC_size, peerC_size, letC_size]); first | exact sizePeer | exact sizeID | exact sizeLetter) (h := ?_); (try simp only [Act.put, k1, k2, k3]); (try simp only [← peerV_eq, ← idV_eq, ← letV_eq])) | (refine wlM (hm := hm) (hv := by first | exact let_id _ | exact let_from _ | exact let_peer _) (hu := by first | exact undPeer | exact undID | exact undLetter) (hi := by (try simp only [rowOf_size, idC_size, peerC_size, letC_size]); first | exact sizePeer | exact sizeID | exact sizeLetter) (h := ?_); (try simp only [Act.put, k1, k2, k3]); (try simp only [← peerV_eq, ← idV_eq, ← letV_eq])) | refine wlLC (hm := hm) (hv := by first | exact let0 _ | exact let1 _ | exact let22 _ | exact let43 _ | exact let44 _ | exact let45 _ | exact let66 _ | rfl) (hu := by first | exact undInt | exact undU64 | exact undBool | exact undIntS | exact undPeerS) (h := ?_) | (refine yS (hm := hm) (hi := by (try simp only [rowOf_size, idC_size, peerC_size, letC_size]); first | exact sizePeer | exact sizeID | exact sizeLetter) (h := ?_); clear hm; intro w1 hm; (try simp only [rowOf_set, k1, k2, k3, Value.cells, Act.eval, k7, k8, k9, kA, Option.getD_some] at hm)) | (refine wlSC (hm := hm) (hi := by first | exact sizeInt | exact sizeU64 | exact sizeBool | exact sizeIntS | exact sizePeerS) (ho := by first | decide | (simp only [rowOf_size, idC_size, peerC_size, letC_size]; omega) | (simp; done)) (h := ?_); clear hm; intro w1 hm; (try simp only [rowOf_set, k1, k2, k3, Value.cells, Act.eval, k7, k8, k9, kA, Option.getD_some] at hm)) | (refine wlA (hz := by first | exact zeroPeer | exact zeroID | exact zeroLetter) (hm := hm) (h := ?_); clear hm; intro b1 w1 hm; (try simp only [rowOf_set, k1, k2, k3, Value.cells, Act.eval, k7, k8, k9, kA, Option.getD_some] at hm)) | (refine wl_box (by rfl) rfl (by first | exact peerV_cells _ _ | exact letV_cells _ | exact idV_cells _ | rfl) hm ?_; clear hm; intro b1 w1 hm) | (go_at_call 62; refine (none_c _).mono ?_; rintro e w1 ⟨rfl, hx⟩; replace hm := hm.call hx; clear hx) | (go_at_call 58; refine (hparts _).mono ?_; rintro e w1 ⟨rfl, hx⟩; replace hm := hm.call hx; clear hx) | (go_at_call 66; refine (hused _).mono ?_; rintro e w1 ⟨rfl, hx⟩; replace hm := hm.call hx; clear hx) | (go_at_call 67; refine (hfo _).mono ?_; rintro e w1 ⟨rfl, hx⟩; replace hm := hm.call hx; clear hx) | (go_at_call 67; refine (hpo _).mono ?_; rintro e w1 ⟨rfl, hx⟩; replace hm := hm.call hx; clear hx) | (go_at_call 68; refine (containsInt_q hoa hn _ (H1.out.old hm)).mono ?_; rintro e w1 ⟨rfl, hx⟩; replace hm := hm.call hx; clear hx) | (go_at_call 69; refine (containsPeer_q hop hp _ (H2.out.old hm)).mono ?_; rintro e w1 ⟨rfl, hx⟩; replace hm := hm.call hx; clear hx) | (with_reducible first | refine stBs ?_ | refine stMs ?_ | refine stAp ?_ | refine stCo ?_)); (try simp only [k4, k5, k6, Act.put, k1, k2, k3]))
    go_ret
    exact ⟨rfl, hm.ext⟩
  rcases p8 with _ | _
  rotate_left
  · go_wp2_with ((first | refine wpList_skip (by rfl) ?_ | (refine wlL (hm := hm) (hu := by first | exact undPeer | exact undID | exact undLetter) (hi := by (try simp only [rowOf_size, idC_size, peerC_size, letC_size]); first | exact sizePeer | exact sizeID | exact sizeLetter) (h := ?_); (try simp only [Act.put, k1, k2, k3]); (try simp only [← peerV_eq, ← idV_eq, ← letV_eq])) | (refine wlM (hm := hm) (hv := by first | exact let_id _ | exact let_from _ | exact let_peer _) (hu := by first | exact undPeer | exact undID | exact undLetter) (hi := by (try simp only [rowOf_size, idC_size, peerC_size, letC_size]); first | exact sizePeer | exact sizeID | exact sizeLetter) (h := ?_); (try simp only [Act.put, k1, k2, k3]); (try simp only [← peerV_eq, ← idV_eq, ← letV_eq])) | refine wlLC (hm := hm) (hv := by first | exact let0 _ | exact let1 _ | exact let22 _ | exact let43 _ | exact let44 _ | exact let45 _ | exact let66 _ | rfl) (hu := by first | exact undInt | exact undU64 | exact undBool | exact undIntS | exact undPeerS) (h := ?_) | (refine yS (hm := hm) (hi := by (try simp only [rowOf_size, idC_size, peerC_size, letC_size]); first | exact sizePeer | exact sizeID | exact sizeLetter) (h := ?_); clear hm; intro w1 hm; (try simp only [rowOf_set, k1, k2, k3, Value.cells, Act.eval, k7, k8, k9, kA, Option.getD_some] at hm)) | (refine wlSC (hm := hm) (hi := by first | exact sizeInt | exact sizeU64 | exact sizeBool | exact sizeIntS | exact sizePeerS) (ho := by first | decide | (simp only [rowOf_size, idC_size, peerC_size, letC_size]; omega) | (simp; done)) (h := ?_); clear hm; intro w1 hm; (try simp only [rowOf_set, k1, k2, k3, Value.cells, Act.eval, k7, k8, k9, kA, Option.getD_some] at hm)) | (refine wlA (hz := by first | exact zeroPeer | exact zeroID | exact zeroLetter) (hm := hm) (h := ?_); clear hm; intro b1 w1 hm; (try simp only [rowOf_set, k1, k2, k3, Value.cells, Act.eval, k7, k8, k9, kA, Option.getD_some] at hm)) | (refine wl_box (by rfl) rfl (by first | exact peerV_cells _ _ | exact letV_cells _ | exact idV_cells _ | rfl) hm ?_; clear hm; intro b1 w1 hm) | (go_at_call 62; refine (none_c _).mono ?_; rintro e w1 ⟨rfl, hx⟩; replace hm := hm.call hx; clear hx) | (go_at_call 58; refine (hparts _).mono ?_; rintro e w1 ⟨rfl, hx⟩; replace hm := hm.call hx; clear hx) | (go_at_call 66; refine (hused _).mono ?_; rintro e w1 ⟨rfl, hx⟩; replace hm := hm.call hx; clear hx) | (go_at_call 67; refine (hfo _).mono ?_; rintro e w1 ⟨rfl, hx⟩; replace hm := hm.call hx; clear hx) | (go_at_call 67; refine (hpo _).mono ?_; rintro e w1 ⟨rfl, hx⟩; replace hm := hm.call hx; clear hx) | (go_at_call 68; refine (containsInt_q hoa hn _ (H1.out.old hm)).mono ?_; rintro e w1 ⟨rfl, hx⟩; replace hm := hm.call hx; clear hx) | (go_at_call 69; refine (containsPeer_q hop hp _ (H2.out.old hm)).mono ?_; rintro e w1 ⟨rfl, hx⟩; replace hm := hm.call hx; clear hx) | (with_reducible first | refine stBs ?_ | refine stMs ?_ | refine stAp ?_ | refine stCo ?_)); (try simp only [k4, k5, k6, Act.put, k1, k2, k3]))
    go_ret
    exact ⟨rfl, hm.ext⟩
  rcases nn with _ | _
  · rcases po with _ | _
    · rcases oa with _ | _
      · go_wp2_with ((first | refine wpList_skip (by rfl) ?_ | (refine wlL (hm := hm) (hu := by first | exact undPeer | exact undID | exact undLetter) (hi := by (try simp only [rowOf_size, idC_size, peerC_size, letC_size]); first | exact sizePeer | exact sizeID | exact sizeLetter) (h := ?_); (try simp only [Act.put, k1, k2, k3]); (try simp only [← peerV_eq, ← idV_eq, ← letV_eq])) | (refine wlM (hm := hm) (hv := by first | exact let_id _ | exact let_from _ | exact let_peer _) (hu := by first | exact undPeer | exact undID | exact undLetter) (hi := by (try simp only [rowOf_size, idC_size, peerC_size, letC_size]); first | exact sizePeer | exact sizeID | exact sizeLetter) (h := ?_); (try simp only [Act.put, k1, k2, k3]); (try simp only [← peerV_eq, ← idV_eq, ← letV_eq])) | refine wlLC (hm := hm) (hv := by first | exact let0 _ | exact let1 _ | exact let22 _ | exact let43 _ | exact let44 _ | exact let45 _ | exact let66 _ | rfl) (hu := by first | exact undInt | exact undU64 | exact undBool | exact undIntS | exact undPeerS) (h := ?_) | (refine yS (hm := hm) (hi := by (try simp only [rowOf_size, idC_size, peerC_size, letC_size]); first | exact sizePeer | exact sizeID | exact sizeLetter) (h := ?_); clear hm; intro w1 hm; (try simp only [rowOf_set, k1, k2, k3, Value.cells, Act.eval, k7, k8, k9, kA, Option.getD_some] at hm)) | (refine wlSC (hm := hm) (hi := by first | exact sizeInt | exact sizeU64 | exact sizeBool | exact sizeIntS | exact sizePeerS) (ho := by first | decide | (simp only [rowOf_size, idC_size, peerC_size, letC_size]; omega) | (simp; done)) (h := ?_); clear hm; intro w1 hm; (try simp only [rowOf_set, k1, k2, k3, Value.cells, Act.eval, k7, k8, k9, kA, Option.getD_some] at hm)) | (refine wlA (hz := by first | exact zeroPeer | exact zeroID | exact zeroLetter) (hm := hm) (h := ?_); clear hm; intro b1 w1 hm; (try simp only [rowOf_set, k1, k2, k3, Value.cells, Act.eval, k7, k8, k9, kA, Option.getD_some] at hm)) | (refine wl_box (by rfl) rfl (by first | exact peerV_cells _ _ | exact letV_cells _ | exact idV_cells _ | rfl) hm ?_; clear hm; intro b1 w1 hm) | (go_at_call 62; refine (none_c _).mono ?_; rintro e w1 ⟨rfl, hx⟩; replace hm := hm.call hx; clear hx) | (go_at_call 58; refine (hparts _).mono ?_; rintro e w1 ⟨rfl, hx⟩; replace hm := hm.call hx; clear hx) | (go_at_call 66; refine (hused _).mono ?_; rintro e w1 ⟨rfl, hx⟩; replace hm := hm.call hx; clear hx) | (go_at_call 67; refine (hfo _).mono ?_; rintro e w1 ⟨rfl, hx⟩; replace hm := hm.call hx; clear hx) | (go_at_call 67; refine (hpo _).mono ?_; rintro e w1 ⟨rfl, hx⟩; replace hm := hm.call hx; clear hx) | (go_at_call 68; refine (containsInt_q hoa hn _ (H1.out.old hm)).mono ?_; rintro e w1 ⟨rfl, hx⟩; replace hm := hm.call hx; clear hx) | (go_at_call 69; refine (containsPeer_q hop hp _ (H2.out.old hm)).mono ?_; rintro e w1 ⟨rfl, hx⟩; replace hm := hm.call hx; clear hx) | (with_reducible first | refine stBs ?_ | refine stMs ?_ | refine stAp ?_ | refine stCo ?_)); (try simp only [k4, k5, k6, Act.put, k1, k2, k3]))
        go_ret
        exact ⟨rfl, hm.ext⟩
      · go_wp2_with ((first | refine wpList_skip (by rfl) ?_ | (refine wlL (hm := hm) (hu := by first | exact undPeer | exact undID | exact undLetter) (hi := by (try simp only [rowOf_size, idC_size, peerC_size, letC_size]); first | exact sizePeer | exact sizeID | exact sizeLetter) (h := ?_); (try simp only [Act.put, k1, k2, k3]); (try simp only [← peerV_eq, ← idV_eq, ← letV_eq])) | (refine wlM (hm := hm) (hv := by first | exact let_id _ | exact let_from _ | exact let_peer _) (hu := by first | exact undPeer | exact undID | exact undLetter) (hi := by (try simp only [rowOf_size, idC_size, peerC_size, letC_size]); first | exact sizePeer | exact sizeID | exact sizeLetter) (h := ?_); (try simp only [Act.put, k1, k2, k3]); (try simp only [← peerV_eq, ← idV_eq, ← letV_eq])) | refine wlLC (hm := hm) (hv := by first | exact let0 _ | exact let1 _ | exact let22 _ | exact let43 _ | exact let44 _ | exact let45 _ | exact let66 _ | rfl) (hu := by first | exact undInt | exact undU64 | exact undBool | exact undIntS | exact undPeerS) (h := ?_) | (refine yS (hm := hm) (hi := by (try simp only [rowOf_size, idC_size, peerC_size, letC_size]); first | exact sizePeer | exact sizeID | exact sizeLetter) (h := ?_); clear hm; intro w1 hm; (try simp only [rowOf_set, k1, k2, k3, Value.cells, Act.eval, k7, k8, k9, kA, Option.getD_some] at hm)) | (refine wlSC (hm := hm) (hi := by first | exact sizeInt | exact sizeU64 | exact sizeBool | exact sizeIntS | exact sizePeerS) (ho := by first | decide | (simp only [rowOf_size, idC_size, peerC_size, letC_size]; omega) | (simp; done)) (h := ?_); clear hm; intro w1 hm; (try simp only [rowOf_set, k1, k2, k3, Value.cells, Act.eval, k7, k8, k9, kA, Option.getD_some] at hm)) | (refine wlA (hz := by first | exact zeroPeer | exact zeroID | exact zeroLetter) (hm := hm) (h := ?_); clear hm; intro b1 w1 hm; (try simp only [rowOf_set, k1, k2, k3, Value.cells, Act.eval, k7, k8, k9, kA, Option.getD_some] at hm)) | (refine wl_box (by rfl) rfl (by first | exact peerV_cells _ _ | exact letV_cells _ | exact idV_cells _ | rfl) hm ?_; clear hm; intro b1 w1 hm) | (go_at_call 62; refine (none_c _).mono ?_; rintro e w1 ⟨rfl, hx⟩; replace hm := hm.call hx; clear hx) | (go_at_call 58; refine (hparts _).mono ?_; rintro e w1 ⟨rfl, hx⟩; replace hm := hm.call hx; clear hx) | (go_at_call 66; refine (hused _).mono ?_; rintro e w1 ⟨rfl, hx⟩; replace hm := hm.call hx; clear hx) | (go_at_call 67; refine (hfo _).mono ?_; rintro e w1 ⟨rfl, hx⟩; replace hm := hm.call hx; clear hx) | (go_at_call 67; refine (hpo _).mono ?_; rintro e w1 ⟨rfl, hx⟩; replace hm := hm.call hx; clear hx) | (go_at_call 68; refine (containsInt_q hoa hn _ (H1.out.old hm)).mono ?_; rintro e w1 ⟨rfl, hx⟩; replace hm := hm.call hx; clear hx) | (go_at_call 69; refine (containsPeer_q hop hp _ (H2.out.old hm)).mono ?_; rintro e w1 ⟨rfl, hx⟩; replace hm := hm.call hx; clear hx) | (with_reducible first | refine stBs ?_ | refine stMs ?_ | refine stAp ?_ | refine stCo ?_)); (try simp only [k4, k5, k6, Act.put, k1, k2, k3]))
        go_ret
        exact ⟨rfl, hm.ext⟩
    · go_wp2_with ((first | refine wpList_skip (by rfl) ?_ | (refine wlL (hm := hm) (hu := by first | exact undPeer | exact undID | exact undLetter) (hi := by (try simp only [rowOf_size, idC_size, peerC_size, letC_size]); first | exact sizePeer | exact sizeID | exact sizeLetter) (h := ?_); (try simp only [Act.put, k1, k2, k3]); (try simp only [← peerV_eq, ← idV_eq, ← letV_eq])) | (refine wlM (hm := hm) (hv := by first | exact let_id _ | exact let_from _ | exact let_peer _) (hu := by first | exact undPeer | exact undID | exact undLetter) (hi := by (try simp only [rowOf_size, idC_size, peerC_size, letC_size]); first | exact sizePeer | exact sizeID | exact sizeLetter) (h := ?_); (try simp only [Act.put, k1, k2, k3]); (try simp only [← peerV_eq, ← idV_eq, ← letV_eq])) | refine wlLC (hm := hm) (hv := by first | exact let0 _ | exact let1 _ | exact let22 _ | exact let43 _ | exact let44 _ | exact let45 _ | exact let66 _ | rfl) (hu := by first | exact undInt | exact undU64 | exact undBool | exact undIntS | exact undPeerS) (h := ?_) | (refine yS (hm := hm) (hi := by (try simp only [rowOf_size, idC_size, peerC_size, letC_size]); first | exact sizePeer | exact sizeID | exact sizeLetter) (h := ?_); clear hm; intro w1 hm; (try simp only [rowOf_set, k1, k2, k3, Value.cells, Act.eval, k7, k8, k9, kA, Option.getD_some] at hm)) | (refine wlSC (hm := hm) (hi := by first | exact sizeInt | exact sizeU64 | exact sizeBool | exact sizeIntS | exact sizePeerS) (ho := by first | decide | (simp only [rowOf_size, idC_size, peerC_size, letC_size]; omega) | (simp; done)) (h := ?_); clear hm; intro w1 hm; (try simp only [rowOf_set, k1, k2, k3, Value.cells, Act.eval, k7, k8, k9, kA, Option.getD_some] at hm)) | (refine wlA (hz := by first | exact zeroPeer | exact zeroID | exact zeroLetter) (hm := hm) (h := ?_); clear hm; intro b1 w1 hm; (try simp only [rowOf_set, k1, k2, k3, Value.cells, Act.eval, k7, k8, k9, kA, Option.getD_some] at hm)) | (refine wl_box (by rfl) rfl (by first | exact peerV_cells _ _ | exact letV_cells _ | exact idV_cells _ | rfl) hm ?_; clear hm; intro b1 w1 hm) | (go_at_call 62; refine (none_c _).mono ?_; rintro e w1 ⟨rfl, hx⟩; replace hm := hm.call hx; clear hx) | (go_at_call 58; refine (hparts _).mono ?_; rintro e w1 ⟨rfl, hx⟩; replace hm := hm.call hx; clear hx) | (go_at_call 66; refine (hused _).mono ?_; rintro e w1 ⟨rfl, hx⟩; replace hm := hm.call hx; clear hx) | (go_at_call 67; refine (hfo _).mono ?_; rintro e w1 ⟨rfl, hx⟩; replace hm := hm.call hx; clear hx) | (go_at_call 67; refine (hpo _).mono ?_; rintro e w1 ⟨rfl, hx⟩; replace hm := hm.call hx; clear hx) | (go_at_call 68; refine (containsInt_q hoa hn _ (H1.out.old hm)).mono ?_; rintro e w1 ⟨rfl, hx⟩; replace hm := hm.call hx; clear hx) | (go_at_call 69; refine (containsPeer_q hop hp _ (H2.out.old hm)).mono ?_; rintro e w1 ⟨rfl, hx⟩; replace hm := hm.call hx; clear hx) | (with_reducible first | refine stBs ?_ | refine stMs ?_ | refine stAp ?_ | refine stCo ?_)); (try simp only [k4, k5, k6, Act.put, k1, k2, k3]))
      go_ret
      exact ⟨rfl, hm.ext⟩
  · rcases f2 with _ | _
    · rcases oa with _ | _
      · go_wp2_with ((first | refine wpList_skip (by rfl) ?_ | (refine wlL (hm := hm) (hu := by first | exact undPeer | exact undID | exact undLetter) (hi := by (try simp only [rowOf_size, idC_size, peerC_size, letC_size]); first | exact sizePeer | exact sizeID | exact sizeLetter) (h := ?_); (try simp only [Act.put, k1, k2, k3]); (try simp only [← peerV_eq, ← idV_eq, ← letV_eq])) | (refine wlM (hm := hm) (hv := by first | exact let_id _ | exact let_from _ | exact let_peer _) (hu := by first | exact undPeer | exact undID | exact undLetter) (hi := by (try simp only [rowOf_size, idC_size, peerC_size, letC_size]); first | exact sizePeer | exact sizeID | exact sizeLetter) (h := ?_); (try simp only [Act.put, k1, k2, k3]); (try simp only [← peerV_eq, ← idV_eq, ← letV_eq])) | refine wlLC (hm := hm) (hv := by first | exact let0 _ | exact let1 _ | exact let22 _ | exact let43 _ | exact let44 _ | exact let45 _ | exact let66 _ | rfl) (hu := by first | exact undInt | exact undU64 | exact undBool | exact undIntS | exact undPeerS) (h := ?_) | (refine yS (hm := hm) (hi := by (try simp only [rowOf_size, idC_size, peerC_size, letC_size]); first | exact sizePeer | exact sizeID | exact sizeLetter) (h := ?_); clear hm; intro w1 hm; (try simp only [rowOf_set, k1, k2, k3, Value.cells, Act.eval, k7, k8, k9, kA, Option.getD_some] at hm)) | (refine wlSC (hm := hm) (hi := by first | exact sizeInt | exact sizeU64 | exact sizeBool | exact sizeIntS | exact sizePeerS) (ho := by first | decide | (simp only [rowOf_size, idC_size, peerC_size, letC_size]; omega) | (simp; done)) (h := ?_); clear hm; intro w1 hm; (try simp only [rowOf_set, k1, k2, k3, Value.cells, Act.eval, k7, k8, k9, kA, Option.getD_some] at hm)) | (refine wlA (hz := by first | exact zeroPeer | exact zeroID | exact zeroLetter) (hm := hm) (h := ?_); clear hm; intro b1 w1 hm; (try simp only [rowOf_set, k1, k2, k3, Value.cells, Act.eval, k7, k8, k9, kA, Option.getD_some] at hm)) | (refine wl_box (by rfl) rfl (by first | exact peerV_cells _ _ | exact letV_cells _ | exact idV_cells _ | rfl) hm ?_; clear hm; intro b1 w1 hm) | (go_at_call 62; refine (none_c _).mono ?_; rintro e w1 ⟨rfl, hx⟩; replace hm := hm.call hx; clear hx) | (go_at_call 58; refine (hparts _).mono ?_; rintro e w1 ⟨rfl, hx⟩; replace hm := hm.call hx; clear hx) | (go_at_call 66; refine (hused _).mono ?_; rintro e w1 ⟨rfl, hx⟩; replace hm := hm.call hx; clear hx) | (go_at_call 67; refine (hfo _).mono ?_; rintro e w1 ⟨rfl, hx⟩; replace hm := hm.call hx; clear hx) | (go_at_call 67; refine (hpo _).mono ?_; rintro e w1 ⟨rfl, hx⟩; replace hm := hm.call hx; clear hx) | (go_at_call 68; refine (containsInt_q hoa hn _ (H1.out.old hm)).mono ?_; rintro e w1 ⟨rfl, hx⟩; replace hm := hm.call hx; clear hx) | (go_at_call 69; refine (containsPeer_q hop hp _ (H2.out.old hm)).mono ?_; rintro e w1 ⟨rfl, hx⟩; replace hm := hm.call hx; clear hx) | (with_reducible first | refine stBs ?_ | refine stMs ?_ | refine stAp ?_ | refine stCo ?_)); (try simp only [k4, k5, k6, Act.put, k1, k2, k3]))
        go_ret
        exact ⟨rfl, hm.ext⟩
      · go_wp2_with ((first | refine wpList_skip (by rfl) ?_ | (refine wlL (hm := hm) (hu := by first | exact undPeer | exact undID | exact undLetter) (hi := by (try simp only [rowOf_size, idC_size, peerC_size, letC_size]); first | exact sizePeer | exact sizeID | exact sizeLetter) (h := ?_); (try simp only [Act.put, k1, k2, k3]); (try simp only [← peerV_eq, ← idV_eq, ← letV_eq])) | (refine wlM (hm := hm) (hv := by first | exact let_id _ | exact let_from _ | exact let_peer _) (hu := by first | exact undPeer | exact undID | exact undLetter) (hi := by (try simp only [rowOf_size, idC_size, peerC_size, letC_size]); first | exact sizePeer | exact sizeID | exact sizeLetter) (h := ?_); (try simp only [Act.put, k1, k2, k3]); (try simp only [← peerV_eq, ← idV_eq, ← letV_eq])) | refine wlLC (hm := hm) (hv := by first | exact let0 _ | exact let1 _ | exact let22 _ | exact let43 _ | exact let44 _ | exact let45 _ | exact let66 _ | rfl) (hu := by first | exact undInt | exact undU64 | exact undBool | exact undIntS | exact undPeerS) (h := ?_) | (refine yS (hm := hm) (hi := by (try simp only [rowOf_size, idC_size, peerC_size, letC_size]); first | exact sizePeer | exact sizeID | exact sizeLetter) (h := ?_); clear hm; intro w1 hm; (try simp only [rowOf_set, k1, k2, k3, Value.cells, Act.eval, k7, k8, k9, kA, Option.getD_some] at hm)) | (refine wlSC (hm := hm) (hi := by first | exact sizeInt | exact sizeU64 | exact sizeBool | exact sizeIntS | exact sizePeerS) (ho := by first | decide | (simp only [rowOf_size, idC_size, peerC_size, letC_size]; omega) | (simp; done)) (h := ?_); clear hm; intro w1 hm; (try simp only [rowOf_set, k1, k2, k3, Value.cells, Act.eval, k7, k8, k9, kA, Option.getD_some] at hm)) | (refine wlA (hz := by first | exact zeroPeer | exact zeroID | exact zeroLetter) (hm := hm) (h := ?_); clear hm; intro b1 w1 hm; (try simp only [rowOf_set, k1, k2, k3, Value.cells, Act.eval, k7, k8, k9, kA, Option.getD_some] at hm)) | (refine wl_box (by rfl) rfl (by first | exact peerV_cells _ _ | exact letV_cells _ | exact idV_cells _ | rfl) hm ?_; clear hm; intro b1 w1 hm) | (go_at_call 62; refine (none_c _).mono ?_; rintro e w1 ⟨rfl, hx⟩; replace hm := hm.call hx; clear hx) | (go_at_call 58; refine (hparts _).mono ?_; rintro e w1 ⟨rfl, hx⟩; replace hm := hm.call hx; clear hx) | (go_at_call 66; refine (hused _).mono ?_; rintro e w1 ⟨rfl, hx⟩; replace hm := hm.call hx; clear hx) | (go_at_call 67; refine (hfo _).mono ?_; rintro e w1 ⟨rfl, hx⟩; replace hm := hm.call hx; clear hx) | (go_at_call 67; refine (hpo _).mono ?_; rintro e w1 ⟨rfl, hx⟩; replace hm := hm.call hx; clear hx) | (go_at_call 68; refine (containsInt_q hoa hn _ (H1.out.old hm)).mono ?_; rintro e w1 ⟨rfl, hx⟩; replace hm := hm.call hx; clear hx) | (go_at_call 69; refine (containsPeer_q hop hp _ (H2.out.old hm)).mono ?_; rintro e w1 ⟨rfl, hx⟩; replace hm := hm.call hx; clear hx) | (with_reducible first | refine stBs ?_ | refine stMs ?_ | refine stAp ?_ | refine stCo ?_)); (try simp only [k4, k5, k6, Act.put, k1, k2, k3]))
        go_ret
        exact ⟨rfl, hm.ext⟩
    · go_wp2_with ((first | refine wpList_skip (by rfl) ?_ | (refine wlL (hm := hm) (hu := by first | exact undPeer | exact undID | exact undLetter) (hi := by (try simp only [rowOf_size, idC_size, peerC_size, letC_size]); first | exact sizePeer | exact sizeID | exact sizeLetter) (h := ?_); (try simp only [Act.put, k1, k2, k3]); (try simp only [← peerV_eq, ← idV_eq, ← letV_eq])) | (refine wlM (hm := hm) (hv := by first | exact let_id _ | exact let_from _ | exact let_peer _) (hu := by first | exact undPeer | exact undID | exact undLetter) (hi := by (try simp only [rowOf_size, idC_size, peerC_size, letC_size]); first | exact sizePeer | exact sizeID | exact sizeLetter) (h := ?_); (try simp only [Act.put, k1, k2, k3]); (try simp only [← peerV_eq, ← idV_eq, ← letV_eq])) | refine wlLC (hm := hm) (hv := by first | exact let0 _ | exact let1 _ | exact let22 _ | exact let43 _ | exact let44 _ | exact let45 _ | exact let66 _ | rfl) (hu := by first | exact undInt | exact undU64 | exact undBool | exact undIntS | exact undPeerS) (h := ?_) | (refine yS (hm := hm) (hi := by (try simp only [rowOf_size, idC_size, peerC_size, letC_size]); first | exact sizePeer | exact sizeID | exact sizeLetter) (h := ?_); clear hm; intro w1 hm; (try simp only [rowOf_set, k1, k2, k3, Value.cells, Act.eval, k7, k8, k9, kA, Option.getD_some] at hm)) | (refine wlSC (hm := hm) (hi := by first | exact sizeInt | exact sizeU64 | exact sizeBool | exact sizeIntS | exact sizePeerS) (ho := by first | decide | (simp only [rowOf_size, idC_size, peerC_size, letC_size]; omega) | (simp; done)) (h := ?_); clear hm; intro w1 hm; (try simp only [rowOf_set, k1, k2, k3, Value.cells, Act.eval, k7, k8, k9, kA, Option.getD_some] at hm)) | (refine wlA (hz := by first | exact zeroPeer | exact zeroID | exact zeroLetter) (hm := hm) (h := ?_); clear hm; intro b1 w1 hm; (try simp only [rowOf_set, k1, k2, k3, Value.cells, Act.eval, k7, k8, k9, kA, Option.getD_some] at hm)) | (refine wl_box (by rfl) rfl (by first | exact peerV_cells _ _ | exact letV_cells _ | exact idV_cells _ | rfl) hm ?_; clear hm; intro b1 w1 hm) | (go_at_call 62; refine (none_c _).mono ?_; rintro e w1 ⟨rfl, hx⟩; replace hm := hm.call hx; clear hx) | (go_at_call 58; refine (hparts _).mono ?_; rintro e w1 ⟨rfl, hx⟩; replace hm := hm.call hx; clear hx) | (go_at_call 66; refine (hused _).mono ?_; rintro e w1 ⟨rfl, hx⟩; replace hm := hm.call hx; clear hx) | (go_at_call 67; refine (hfo _).mono ?_; rintro e w1 ⟨rfl, hx⟩; replace hm := hm.call hx; clear hx) | (go_at_call 67; refine (hpo _).mono ?_; rintro e w1 ⟨rfl, hx⟩; replace hm := hm.call hx; clear hx) | (go_at_call 68; refine (containsInt_q hoa hn _ (H1.out.old hm)).mono ?_; rintro e w1 ⟨rfl, hx⟩; replace hm := hm.call hx; clear hx) | (go_at_call 69; refine (containsPeer_q hop hp _ (H2.out.old hm)).mono ?_; rintro e w1 ⟨rfl, hx⟩; replace hm := hm.call hx; clear hx) | (with_reducible first | refine stBs ?_ | refine stMs ?_ | refine stAp ?_ | refine stCo ?_)); (try simp only [k4, k5, k6, Act.put, k1, k2, k3]))
      go_ret
      exact ⟨rfl, hm.ext⟩
end Go.Proofs.Ytijkmbebfodhdaa
