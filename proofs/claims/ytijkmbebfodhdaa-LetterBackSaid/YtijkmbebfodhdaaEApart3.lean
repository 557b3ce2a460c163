/- Texts joined by program: LetI LetJ LetK LetL LetM LetN LetO LetG OpenI WirJ WirK WirM LetR. -/
import Derived.WalkLawsBesides
import Derived.Test.YtijkmbebfodhdaaEApart2
/- (LetI)
  Letters: is there an odd address in a row?
-/
namespace Go.Proofs.Ytijkmbebfodhdaa
open Go.RowKit
set_option linter.unusedSimpArgs false
set_option linter.unusedVariables false
set_option maxHeartbeats 1000000
set_option maxRecDepth 20000
attribute [local irreducible] wpQuiet wpList wpAnyH Calls

/-- The n ints of a slice are those of z, in the world w. -/
def IntsV (w : World) (c : Option Addr) (n : Nat) (z : Nat → Int) : Prop := ∀ i, i < n → ∃ a : Addr, c = some a ∧ w.cell? (a.add i) = some (.int .i64 (z i))
theorem IntsV.old {w0 w : World} {L : List (Nat × Obj)} {c : Option Addr} {n : Nat} {z : Nat → Int} (h : IntsV w0 c n z) (hm : Mem w0 [] L w) : IntsV w c n z := fun i hi => by
  obtain ⟨a, rfl, hc⟩ := h i hi
  exact ⟨a, rfl, cell_old hm hc⟩
def anyOdd (z : Nat → Int) (n : Nat) : Bool := (List.range n).any fun i => oddM (z i)
theorem anyOdd_true {z : Nat → Int} {n i : Nat} (hi : i < n) (h : oddM (z i) = true) : anyOdd z n = true := by
  unfold anyOdd
  rw [List.any_eq_true]
  exact ⟨i, List.mem_range.2 hi, h⟩
theorem anyOdd_false {z : Nat → Int} {n : Nat} (h : ∀ i, i < n → oddM (z i) = false) : anyOdd z n = false := by
  unfold anyOdd
  rw [List.any_eq_false]
  intro i hi
  rw [h i (List.mem_range.1 hi)]
  decide
theorem indexInt_c (c : Option Addr) (n cap : Nat) (z : Nat → Int) (hn : n < 2 ^ 62) (w : World) (h : IntsV w c n z) :
    Calls Try.prog 85 #[.slice c n cap, .func (.func 67) #[] #[]] w fun e w' => (∃ r : Int, e = .returned (.int .i64 r) ∧ decide (0 ≤ r) = anyOdd z n) ∧ Ext w w' := by
  have HN := hid hn
  have H := hid h
  clear hn h
  go_enter Try.func85, Try.ntmps85
  have hm := Mem.refl w []
  go_wp2_with ((first | refine wpList_skip (by rfl) ?_ | (refine wlL (hm := hm) (hu := by first | exact undPeer | exact undID) (hi := by (try simp only [rowOf_size, idC_size, peerC_size]); first | exact sizePeer | exact sizeID) (h := ?_); (try simp only [Act.put, k1, k2, k3]); (try simp only [← peerV_eq, ← idV_eq])) | refine wlLC (hm := hm) (hu := by first | exact undInt) (h := ?_) | (refine wlS (hm := hm) (hv := (by first | rfl | exact idV_eq _ | exact labV_eq _ _ | exact rectV_eq _ _ _ _ | exact peerV_eq _ _ | exact letV_eq _)) (hi := by (try simp only [rowOf_size, idC_size, peerC_size]); first | exact sizePeer | exact sizeID) (hs := by first | (simp only [rowOf_size, idC_size, peerC_size]; done) | rfl) (h1 := by first | rfl | exact idC_one _ | exact peerC_one _ _ | exact rowOf_one _ _ (fun _ _ => rfl) | (simp only [List.size_toArray, List.length_cons, List.all_toArray', List.all_cons, List.all_nil, Value.oneCell', Bool.and_true, Bool.and_self]; done) | (simp [Value.oneCell']; done)) (h := ?_); clear hm; intro w1 hm; (try simp only [rowOf_set, k1, k2, k3, Value.cells, Act.eval, k7, k8, k9, kA, Option.getD_some] at hm)) | (refine wlSC (hm := hm) (hi := by first | exact sizeInt) (ho := by first | decide | (simp only [rowOf_size, idC_size, peerC_size]; omega) | (simp; done)) (h := ?_); clear hm; intro w1 hm; (try simp only [rowOf_set, k1, k2, k3, Value.cells, Act.eval, k7, k8, k9, kA, Option.getD_some] at hm)) | (refine wlA (hz := by first | exact zeroPeer | exact zeroID) (hm := hm) (h := ?_); clear hm; intro b1 w1 hm; (try simp only [rowOf_set, k1, k2, k3, Value.cells, Act.eval, k7, k8, k9, kA, Option.getD_some] at hm)) | (refine wl_box (by rfl) rfl (by first | exact peerV_cells _ _ | exact letV_cells _ | exact idV_cells _ | rfl) hm ?_; clear hm; intro b1 w1 hm) | (go_at_call 67; refine (ho _).mono ?_; rintro e w1 ⟨rfl, hx⟩; replace hm := hm.call hx; clear hx) | (with_reducible first | refine stBs ?_ | refine stMs ?_ | refine stAp ?_ | refine stCo ?_)); (try simp only [k4, k5, k6, Act.put, k1, k2, k3]))
  go_loopw [8] (fun vi wr => ∃ i : Nat, i ≤ n ∧ vi = .int .i64 (i : Int) ∧ (∀ j, j < i → oddM (z j) = false) ∧ Mem w [] [] wr)
    (fun vi _ => (n - intOf vi).toNat)
  case atStart => exact ⟨0, by omega, rfl, fun j hj => by omega, hm⟩
  case round =>
    clear hm
    obtain ⟨i, hi, rfl, hlow, hm⟩ := hrel
    by_cases hin : i < n
    · obtain ⟨a, rfl, hcell⟩ := H.out i hin
      have hcell' := cell_old hm hcell
      have e1 : (i : Int) < (n : Int) := by omega
      have e2 : (0 : Int) ≤ (i : Int) := by omega
      have g1 : IntKind.i64.wrap ((i : Int) + 1) = (i : Int) + 1 := wrap_i64 (by have := HN.out; omega) (by have := HN.out; omega)
      have ho := odd_c (z i)
      obtain ⟨q, hq⟩ : ∃ q, oddM (z i) = q := ⟨_, rfl⟩
      rw [hq] at ho
      obtain ⟨y, hy⟩ : ∃ y, z i = y := ⟨_, rfl⟩
      rw [hy] at ho hcell'
      have HQ := hid hq
      have HL := hid hlow
      clear hcell hi hq hy hlow
      go_wp2_with (with_reducible first | refine stAl ?_ | refine stBo ?_ | refine stLo ?_ | refine stSo ?_ | refine stBu ?_ | refine stBs ?_ | refine stMs ?_ | refine stAp ?_ | refine stCo ?_)
      refine Stop.go (wl_loadOld (v := .int .i64 y) (by rfl) rfl (by first | exact hcell' | simpa using hcell') undInt rfl ?_); simp only [Act.put, k1, k2, k3]
      clear hcell'
      cases q with
      | false =>
        go_wp2_with ((first | refine wpList_skip (by rfl) ?_ | (refine wlL (hm := hm) (hu := by first | exact undPeer | exact undID) (hi := by (try simp only [rowOf_size, idC_size, peerC_size]); first | exact sizePeer | exact sizeID) (h := ?_); (try simp only [Act.put, k1, k2, k3]); (try simp only [← peerV_eq, ← idV_eq])) | refine wlLC (hm := hm) (hu := by first | exact undInt) (h := ?_) | (refine wlS (hm := hm) (hv := (by first | rfl | exact idV_eq _ | exact labV_eq _ _ | exact rectV_eq _ _ _ _ | exact peerV_eq _ _ | exact letV_eq _)) (hi := by (try simp only [rowOf_size, idC_size, peerC_size]); first | exact sizePeer | exact sizeID) (hs := by first | (simp only [rowOf_size, idC_size, peerC_size]; done) | rfl) (h1 := by first | rfl | exact idC_one _ | exact peerC_one _ _ | exact rowOf_one _ _ (fun _ _ => rfl) | (simp only [List.size_toArray, List.length_cons, List.all_toArray', List.all_cons, List.all_nil, Value.oneCell', Bool.and_true, Bool.and_self]; done) | (simp [Value.oneCell']; done)) (h := ?_); clear hm; intro w1 hm; (try simp only [rowOf_set, k1, k2, k3, Value.cells, Act.eval, k7, k8, k9, kA, Option.getD_some] at hm)) | (refine wlSC (hm := hm) (hi := by first | exact sizeInt) (ho := by first | decide | (simp only [rowOf_size, idC_size, peerC_size]; omega) | (simp; done)) (h := ?_); clear hm; intro w1 hm; (try simp only [rowOf_set, k1, k2, k3, Value.cells, Act.eval, k7, k8, k9, kA, Option.getD_some] at hm)) | (refine wlA (hz := by first | exact zeroPeer | exact zeroID) (hm := hm) (h := ?_); clear hm; intro b1 w1 hm; (try simp only [rowOf_set, k1, k2, k3, Value.cells, Act.eval, k7, k8, k9, kA, Option.getD_some] at hm)) | (refine wl_box (by rfl) rfl (by first | exact peerV_cells _ _ | exact letV_cells _ | exact idV_cells _ | rfl) hm ?_; clear hm; intro b1 w1 hm) | (go_at_call 67; refine (ho _).mono ?_; rintro e w1 ⟨rfl, hx⟩; replace hm := hm.call hx; clear hx) | (with_reducible first | refine stBs ?_ | refine stMs ?_ | refine stAp ?_ | refine stCo ?_)); (try simp only [k4, k5, k6, Act.put, k1, k2, k3]))
        go_roundw
        case rel => exact ⟨i + 1, by omega, by go_num, fun j hj => by
          by_cases hji : j = i
          · rw [hji]; exact HQ.out
          · exact HL.out j (by omega), hm⟩
        case measure => (simp [intOf]; try omega)
      | true =>
        go_wp2_with ((first | refine wpList_skip (by rfl) ?_ | (refine wlL (hm := hm) (hu := by first | exact undPeer | exact undID) (hi := by (try simp only [rowOf_size, idC_size, peerC_size]); first | exact sizePeer | exact sizeID) (h := ?_); (try simp only [Act.put, k1, k2, k3]); (try simp only [← peerV_eq, ← idV_eq])) | refine wlLC (hm := hm) (hu := by first | exact undInt) (h := ?_) | (refine wlS (hm := hm) (hv := (by first | rfl | exact idV_eq _ | exact labV_eq _ _ | exact rectV_eq _ _ _ _ | exact peerV_eq _ _ | exact letV_eq _)) (hi := by (try simp only [rowOf_size, idC_size, peerC_size]); first | exact sizePeer | exact sizeID) (hs := by first | (simp only [rowOf_size, idC_size, peerC_size]; done) | rfl) (h1 := by first | rfl | exact idC_one _ | exact peerC_one _ _ | exact rowOf_one _ _ (fun _ _ => rfl) | (simp only [List.size_toArray, List.length_cons, List.all_toArray', List.all_cons, List.all_nil, Value.oneCell', Bool.and_true, Bool.and_self]; done) | (simp [Value.oneCell']; done)) (h := ?_); clear hm; intro w1 hm; (try simp only [rowOf_set, k1, k2, k3, Value.cells, Act.eval, k7, k8, k9, kA, Option.getD_some] at hm)) | (refine wlSC (hm := hm) (hi := by first | exact sizeInt) (ho := by first | decide | (simp only [rowOf_size, idC_size, peerC_size]; omega) | (simp; done)) (h := ?_); clear hm; intro w1 hm; (try simp only [rowOf_set, k1, k2, k3, Value.cells, Act.eval, k7, k8, k9, kA, Option.getD_some] at hm)) | (refine wlA (hz := by first | exact zeroPeer | exact zeroID) (hm := hm) (h := ?_); clear hm; intro b1 w1 hm; (try simp only [rowOf_set, k1, k2, k3, Value.cells, Act.eval, k7, k8, k9, kA, Option.getD_some] at hm)) | (refine wl_box (by rfl) rfl (by first | exact peerV_cells _ _ | exact letV_cells _ | exact idV_cells _ | rfl) hm ?_; clear hm; intro b1 w1 hm) | (go_at_call 67; refine (ho _).mono ?_; rintro e w1 ⟨rfl, hx⟩; replace hm := hm.call hx; clear hx) | (with_reducible first | refine stBs ?_ | refine stMs ?_ | refine stAp ?_ | refine stCo ?_)); (try simp only [k4, k5, k6, Act.put, k1, k2, k3]))
        go_ret
        exact ⟨⟨(i : Int), rfl, by rw [anyOdd_true hin HQ.out]; exact decide_eq_true (by omega)⟩, hm.ext⟩
    · obtain rfl : i = n := by omega
      have HL := hid hlow
      clear hi hin hlow
      go_wp2_with ((first | refine wpList_skip (by rfl) ?_ | (refine wlL (hm := hm) (hu := by first | exact undPeer | exact undID) (hi := by (try simp only [rowOf_size, idC_size, peerC_size]); first | exact sizePeer | exact sizeID) (h := ?_); (try simp only [Act.put, k1, k2, k3]); (try simp only [← peerV_eq, ← idV_eq])) | refine wlLC (hm := hm) (hu := by first | exact undInt) (h := ?_) | (refine wlS (hm := hm) (hv := (by first | rfl | exact idV_eq _ | exact labV_eq _ _ | exact rectV_eq _ _ _ _ | exact peerV_eq _ _ | exact letV_eq _)) (hi := by (try simp only [rowOf_size, idC_size, peerC_size]); first | exact sizePeer | exact sizeID) (hs := by first | (simp only [rowOf_size, idC_size, peerC_size]; done) | rfl) (h1 := by first | rfl | exact idC_one _ | exact peerC_one _ _ | exact rowOf_one _ _ (fun _ _ => rfl) | (simp only [List.size_toArray, List.length_cons, List.all_toArray', List.all_cons, List.all_nil, Value.oneCell', Bool.and_true, Bool.and_self]; done) | (simp [Value.oneCell']; done)) (h := ?_); clear hm; intro w1 hm; (try simp only [rowOf_set, k1, k2, k3, Value.cells, Act.eval, k7, k8, k9, kA, Option.getD_some] at hm)) | (refine wlSC (hm := hm) (hi := by first | exact sizeInt) (ho := by first | decide | (simp only [rowOf_size, idC_size, peerC_size]; omega) | (simp; done)) (h := ?_); clear hm; intro w1 hm; (try simp only [rowOf_set, k1, k2, k3, Value.cells, Act.eval, k7, k8, k9, kA, Option.getD_some] at hm)) | (refine wlA (hz := by first | exact zeroPeer | exact zeroID) (hm := hm) (h := ?_); clear hm; intro b1 w1 hm; (try simp only [rowOf_set, k1, k2, k3, Value.cells, Act.eval, k7, k8, k9, kA, Option.getD_some] at hm)) | (refine wl_box (by rfl) rfl (by first | exact peerV_cells _ _ | exact letV_cells _ | exact idV_cells _ | rfl) hm ?_; clear hm; intro b1 w1 hm) | (go_at_call 67; refine (ho _).mono ?_; rintro e w1 ⟨rfl, hx⟩; replace hm := hm.call hx; clear hx) | (with_reducible first | refine stBs ?_ | refine stMs ?_ | refine stAp ?_ | refine stCo ?_)); (try simp only [k4, k5, k6, Act.put, k1, k2, k3]))
      go_ret
      exact ⟨⟨-1, rfl, by rw [anyOdd_false HL.out]; rfl⟩, hm.ext⟩
theorem containsInt_c (c : Option Addr) (n cap : Nat) (z : Nat → Int) (hn : n < 2 ^ 62) (w : World) (h : IntsV w c n z) :
    Calls Try.prog 68 #[.slice c n cap, .func (.func 67) #[] #[]] w fun e w' => e = .returned (.bool (anyOdd z n)) ∧ Ext w w' := by
  have H := hid h
  clear h
  obtain ⟨res, hres⟩ : ∃ res, anyOdd z n = res := ⟨_, rfl⟩
  rw [hres]
  have HRes := hid hres
  clear hres
  go_enter Try.func68, Try.ntmps68
  have hm := Mem.refl w []
  go_wp2_with (with_reducible first | refine stAl ?_ | refine stBo ?_ | refine stLo ?_ | refine stSo ?_ | refine stBu ?_ | refine stBs ?_ | refine stMs ?_ | refine stAp ?_ | refine stCo ?_)
  refine (indexInt_c c n cap z hn _ (H.out.old hm)).mono ?_
  rintro e w2 ⟨⟨r, rfl, hr⟩, hx⟩
  replace hm := hm.call hx
  clear hx
  rw [HRes.out] at hr
  go_wp2_with ((first | refine wpList_skip (by rfl) ?_ | (refine wlL (hm := hm) (hu := by first | exact undPeer | exact undID) (hi := by (try simp only [rowOf_size, idC_size, peerC_size]); first | exact sizePeer | exact sizeID) (h := ?_); (try simp only [Act.put, k1, k2, k3]); (try simp only [← peerV_eq, ← idV_eq])) | refine wlLC (hm := hm) (hu := by first | exact undInt) (h := ?_) | (refine wlS (hm := hm) (hv := (by first | rfl | exact idV_eq _ | exact labV_eq _ _ | exact rectV_eq _ _ _ _ | exact peerV_eq _ _ | exact letV_eq _)) (hi := by (try simp only [rowOf_size, idC_size, peerC_size]); first | exact sizePeer | exact sizeID) (hs := by first | (simp only [rowOf_size, idC_size, peerC_size]; done) | rfl) (h1 := by first | rfl | exact idC_one _ | exact peerC_one _ _ | exact rowOf_one _ _ (fun _ _ => rfl) | (simp only [List.size_toArray, List.length_cons, List.all_toArray', List.all_cons, List.all_nil, Value.oneCell', Bool.and_true, Bool.and_self]; done) | (simp [Value.oneCell']; done)) (h := ?_); clear hm; intro w1 hm; (try simp only [rowOf_set, k1, k2, k3, Value.cells, Act.eval, k7, k8, k9, kA, Option.getD_some] at hm)) | (refine wlSC (hm := hm) (hi := by first | exact sizeInt) (ho := by first | decide | (simp only [rowOf_size, idC_size, peerC_size]; omega) | (simp; done)) (h := ?_); clear hm; intro w1 hm; (try simp only [rowOf_set, k1, k2, k3, Value.cells, Act.eval, k7, k8, k9, kA, Option.getD_some] at hm)) | (refine wlA (hz := by first | exact zeroPeer | exact zeroID) (hm := hm) (h := ?_); clear hm; intro b1 w1 hm; (try simp only [rowOf_set, k1, k2, k3, Value.cells, Act.eval, k7, k8, k9, kA, Option.getD_some] at hm)) | (refine wl_box (by rfl) rfl (by first | exact peerV_cells _ _ | exact letV_cells _ | exact idV_cells _ | rfl) hm ?_; clear hm; intro b1 w1 hm) | (go_at_call 67; refine (odd_c _ _).mono ?_; rintro e w1 ⟨rfl, hx⟩; replace hm := hm.call hx; clear hx) | (with_reducible first | refine stBs ?_ | refine stMs ?_ | refine stAp ?_ | refine stCo ?_)); (try simp only [k4, k5, k6, Act.put, k1, k2, k3]))
  go_ret
  exact ⟨by first | rfl | rw [← hr] <;> rfl, hm.ext⟩
end Go.Proofs.Ytijkmbebfodhdaa

/- (LetJ)
  Letters: is there an odd address in a row of peers?
-/
namespace Go.Proofs.Ytijkmbebfodhdaa
open Go.RowKit
set_option linter.unusedSimpArgs false
set_option linter.unusedVariables false
set_option maxHeartbeats 1000000
set_option maxRecDepth 20000

section
variable {P : Program} {ops : Array Oper} {Q : Exit → Act → World → Prop} {rest : List Oper} {a : Act} {w : World} {dst : Option Tmp} {ty : TypeId} {pos : String} {aft : Array Edge} {gd : Option (Nat × Bool)}
theorem ld_oldRow {T : TypeId} {x : Operand} {ad : Addr} {cs : Array Value} {d : TypeDesc} (hx : a.eval x = .pointer (some ad)) (hcell : ∀ j v, cs.toList[j]? = some v → w.cell? (ad.add j) = some v)
    (hu : P.underlying T = some d) (hd : d.isRow = true) (hi : (P.info? T).map (·.size) = some cs.size) : (execOp a.eval ⟨dst, .load T x, ty, pos, aft, gd⟩).run P w = .ok (.value (.agg cs)) w := by
  have hl : (loadCells ad cs.toList.length).run P w = .ok cs.toList.toArray w := run_loadCells_list (P := P) w ad cs.toList hcell
  rw [Array.length_toList, Array.toArray_toList] at hl
  cases hq : P.info? T with
  | none => simp [hq] at hi
  | some i =>
    have hs : i.size = cs.size := by simpa [hq] using hi
    have hagg : (isAgg T).run P w = .ok true w := by
      unfold isAgg
      rw [Sem.run_bind, run_underlying hu w]
      cases d <;> simp_all
    unfold execOp
    simp [hx, Instr.loadAt, Instr.sureAddr, Sem.run_bind, loadVar, hagg, sizeOf, typeInfo, hq, hs, hl]
theorem wl_loadOldRow {T : TypeId} {x : Operand} {ad : Addr} {cs : Array Value} {d : TypeDesc} (hw : Region.wanted ⟨dst, .load T x, ty, pos, aft, gd⟩ (yielded ops a.tmps) = true) (hx : a.eval x = .pointer (some ad)) (hcell : ∀ j v, cs.toList[j]? = some v → w.cell? (ad.add j) = some v)
    (hu : P.underlying T = some d) (hd : d.isRow = true) (hi : (P.info? T).map (·.size) = some cs.size) (h : wpList P ops Q rest (a.put dst (.agg cs)) w) : wpList P ops Q (⟨dst, .load T x, ty, pos, aft, gd⟩ :: rest) a w :=
  wl_op hw fun K hK => ow_value (ld_oldRow hx hcell hu hd hi) (hK _ _ h)
end
/-- The n peers of a slice, in the world w. -/
def PeersV (w : World) (c : Option Addr) (n : Nat) (za : Nat → Int) (zp : Nat → Nat) : Prop := ∀ i, i < n → ∃ a : Addr, c = some a ∧ ∀ j v, (peerC (za i) (zp i)).toList[j]? = some v → w.cell? ((a.add (i * 21)).add j) = some v
theorem PeersV.old {w0 w : World} {L : List (Nat × Obj)} {c : Option Addr} {n : Nat} {za : Nat → Int} {zp : Nat → Nat} (h : PeersV w0 c n za zp) (hm : Mem w0 [] L w) : PeersV w c n za zp := fun i hi => by
  obtain ⟨a, rfl, hc⟩ := h i hi
  exact ⟨a, rfl, fun j v hv => cell_old hm (hc j v hv)⟩
attribute [local irreducible] wpQuiet wpList wpAnyH Calls
theorem indexPeer_c (c : Option Addr) (n cap : Nat) (za : Nat → Int) (zp : Nat → Nat) (hn : n < 2 ^ 62) (w : World) (h : PeersV w c n za zp) :
    Calls Try.prog 86 #[.slice c n cap, .func (.func 70) #[] #[]] w fun e w' => (∃ r : Int, e = .returned (.int .i64 r) ∧ decide (0 ≤ r) = anyOdd za n) ∧ Ext w w' := by
  have HN := hid hn
  have H := hid h
  clear hn h
  go_enter Try.func86, Try.ntmps86
  have hm := Mem.refl w []
  go_wp2_with ((first | refine wpList_skip (by rfl) ?_ | (refine wlL (hm := hm) (hu := by first | exact undPeer | exact undID) (hi := by (try simp only [rowOf_size, idC_size, peerC_size]); first | exact sizePeer | exact sizeID) (h := ?_); (try simp only [Act.put, k1, k2, k3]); (try simp only [← peerV_eq, ← idV_eq])) | refine wlLC (hm := hm) (hu := by first | exact undInt) (h := ?_) | (refine wlS (hm := hm) (hv := (by first | rfl | exact idV_eq _ | exact labV_eq _ _ | exact rectV_eq _ _ _ _ | exact peerV_eq _ _ | exact letV_eq _)) (hi := by (try simp only [rowOf_size, idC_size, peerC_size]); first | exact sizePeer | exact sizeID) (hs := by first | (simp only [rowOf_size, idC_size, peerC_size]; done) | rfl) (h1 := by first | rfl | exact idC_one _ | exact peerC_one _ _ | exact rowOf_one _ _ (fun _ _ => rfl) | (simp only [List.size_toArray, List.length_cons, List.all_toArray', List.all_cons, List.all_nil, Value.oneCell', Bool.and_true, Bool.and_self]; done) | (simp [Value.oneCell']; done)) (h := ?_); clear hm; intro w1 hm; (try simp only [rowOf_set, k1, k2, k3, Value.cells, Act.eval, k7, k8, k9, kA, Option.getD_some] at hm)) | (refine wlSC (hm := hm) (hi := by first | exact sizeInt) (ho := by first | decide | (simp only [rowOf_size, idC_size, peerC_size]; omega) | (simp; done)) (h := ?_); clear hm; intro w1 hm; (try simp only [rowOf_set, k1, k2, k3, Value.cells, Act.eval, k7, k8, k9, kA, Option.getD_some] at hm)) | (refine wlA (hz := by first | exact zeroPeer | exact zeroID) (hm := hm) (h := ?_); clear hm; intro b1 w1 hm; (try simp only [rowOf_set, k1, k2, k3, Value.cells, Act.eval, k7, k8, k9, kA, Option.getD_some] at hm)) | (refine wl_box (by rfl) rfl (by first | exact peerV_cells _ _ | exact letV_cells _ | exact idV_cells _ | rfl) hm ?_; clear hm; intro b1 w1 hm) | (go_at_call 70; refine (ho _).mono ?_; rintro e w1 ⟨rfl, hx⟩; replace hm := hm.call hx; clear hx) | (with_reducible first | refine stBs ?_ | refine stMs ?_ | refine stAp ?_ | refine stCo ?_)); (try simp only [k4, k5, k6, Act.put, k1, k2, k3]))
  go_loopw [8] (fun vi wr => ∃ i : Nat, i ≤ n ∧ vi = .int .i64 (i : Int) ∧ (∀ j, j < i → oddM (za j) = false) ∧ Mem w [] [] wr)
    (fun vi _ => (n - intOf vi).toNat)
  case atStart => exact ⟨0, by omega, rfl, fun j hj => by omega, hm⟩
  case round =>
    clear hm
    obtain ⟨i, hi, rfl, hlow, hm⟩ := hrel
    by_cases hin : i < n
    · obtain ⟨a, rfl, hcell⟩ := (H.out.old hm) i hin
      have e1 : (i : Int) < (n : Int) := by omega
      have e2 : (0 : Int) ≤ (i : Int) := by omega
      have g1 : IntKind.i64.wrap ((i : Int) + 1) = (i : Int) + 1 := wrap_i64 (by have := HN.out; omega) (by have := HN.out; omega)
      have ho := oddP_c (za i) (zp i)
      obtain ⟨q, hq⟩ : ∃ q, oddM (za i) = q := ⟨_, rfl⟩
      rw [hq] at ho
      obtain ⟨y, hy⟩ : ∃ y, za i = y := ⟨_, rfl⟩
      obtain ⟨x, hx⟩ : ∃ x, zp i = x := ⟨_, rfl⟩
      rw [hy, hx] at ho hcell
      have HQ := hid hq
      have HL := hid hlow
      have HC := hid hcell
      clear hcell hi hq hy hlow hx
      go_wp2_with (with_reducible first | refine stAl ?_ | refine stBo ?_ | refine stLo ?_ | refine stSo ?_ | refine stBu ?_ | refine stBs ?_ | refine stMs ?_ | refine stAp ?_ | refine stCo ?_)
      refine Stop.go (wl_loadOldRow (cs := peerC y x) (by rfl) rfl (by first | exact HC.out | simpa using HC.out) undPeer rfl (by rw [peerC_size]; exact sizePeer) ?_); simp only [Act.put, k1, k2, k3]; simp only [← peerV_eq]
      clear HC
      cases q with
      | false =>
        go_wp2_with ((first | refine wpList_skip (by rfl) ?_ | (refine wlL (hm := hm) (hu := by first | exact undPeer | exact undID) (hi := by (try simp only [rowOf_size, idC_size, peerC_size]); first | exact sizePeer | exact sizeID) (h := ?_); (try simp only [Act.put, k1, k2, k3]); (try simp only [← peerV_eq, ← idV_eq])) | refine wlLC (hm := hm) (hu := by first | exact undInt) (h := ?_) | (refine wlS (hm := hm) (hv := (by first | rfl | exact idV_eq _ | exact labV_eq _ _ | exact rectV_eq _ _ _ _ | exact peerV_eq _ _ | exact letV_eq _)) (hi := by (try simp only [rowOf_size, idC_size, peerC_size]); first | exact sizePeer | exact sizeID) (hs := by first | (simp only [rowOf_size, idC_size, peerC_size]; done) | rfl) (h1 := by first | rfl | exact idC_one _ | exact peerC_one _ _ | exact rowOf_one _ _ (fun _ _ => rfl) | (simp only [List.size_toArray, List.length_cons, List.all_toArray', List.all_cons, List.all_nil, Value.oneCell', Bool.and_true, Bool.and_self]; done) | (simp [Value.oneCell']; done)) (h := ?_); clear hm; intro w1 hm; (try simp only [rowOf_set, k1, k2, k3, Value.cells, Act.eval, k7, k8, k9, kA, Option.getD_some] at hm)) | (refine wlSC (hm := hm) (hi := by first | exact sizeInt) (ho := by first | decide | (simp only [rowOf_size, idC_size, peerC_size]; omega) | (simp; done)) (h := ?_); clear hm; intro w1 hm; (try simp only [rowOf_set, k1, k2, k3, Value.cells, Act.eval, k7, k8, k9, kA, Option.getD_some] at hm)) | (refine wlA (hz := by first | exact zeroPeer | exact zeroID) (hm := hm) (h := ?_); clear hm; intro b1 w1 hm; (try simp only [rowOf_set, k1, k2, k3, Value.cells, Act.eval, k7, k8, k9, kA, Option.getD_some] at hm)) | (refine wl_box (by rfl) rfl (by first | exact peerV_cells _ _ | exact letV_cells _ | exact idV_cells _ | rfl) hm ?_; clear hm; intro b1 w1 hm) | (go_at_call 70; refine (ho _).mono ?_; rintro e w1 ⟨rfl, hx⟩; replace hm := hm.call hx; clear hx) | (with_reducible first | refine stBs ?_ | refine stMs ?_ | refine stAp ?_ | refine stCo ?_)); (try simp only [k4, k5, k6, Act.put, k1, k2, k3]))
        go_roundw
        case rel => exact ⟨i + 1, by omega, by go_num, fun j hj => by
          by_cases hji : j = i
          · rw [hji]; exact HQ.out
          · exact HL.out j (by omega), hm⟩
        case measure => (simp [intOf]; try omega)
      | true =>
        go_wp2_with ((first | refine wpList_skip (by rfl) ?_ | (refine wlL (hm := hm) (hu := by first | exact undPeer | exact undID) (hi := by (try simp only [rowOf_size, idC_size, peerC_size]); first | exact sizePeer | exact sizeID) (h := ?_); (try simp only [Act.put, k1, k2, k3]); (try simp only [← peerV_eq, ← idV_eq])) | refine wlLC (hm := hm) (hu := by first | exact undInt) (h := ?_) | (refine wlS (hm := hm) (hv := (by first | rfl | exact idV_eq _ | exact labV_eq _ _ | exact rectV_eq _ _ _ _ | exact peerV_eq _ _ | exact letV_eq _)) (hi := by (try simp only [rowOf_size, idC_size, peerC_size]); first | exact sizePeer | exact sizeID) (hs := by first | (simp only [rowOf_size, idC_size, peerC_size]; done) | rfl) (h1 := by first | rfl | exact idC_one _ | exact peerC_one _ _ | exact rowOf_one _ _ (fun _ _ => rfl) | (simp only [List.size_toArray, List.length_cons, List.all_toArray', List.all_cons, List.all_nil, Value.oneCell', Bool.and_true, Bool.and_self]; done) | (simp [Value.oneCell']; done)) (h := ?_); clear hm; intro w1 hm; (try simp only [rowOf_set, k1, k2, k3, Value.cells, Act.eval, k7, k8, k9, kA, Option.getD_some] at hm)) | (refine wlSC (hm := hm) (hi := by first | exact sizeInt) (ho := by first | decide | (simp only [rowOf_size, idC_size, peerC_size]; omega) | (simp; done)) (h := ?_); clear hm; intro w1 hm; (try simp only [rowOf_set, k1, k2, k3, Value.cells, Act.eval, k7, k8, k9, kA, Option.getD_some] at hm)) | (refine wlA (hz := by first | exact zeroPeer | exact zeroID) (hm := hm) (h := ?_); clear hm; intro b1 w1 hm; (try simp only [rowOf_set, k1, k2, k3, Value.cells, Act.eval, k7, k8, k9, kA, Option.getD_some] at hm)) | (refine wl_box (by rfl) rfl (by first | exact peerV_cells _ _ | exact letV_cells _ | exact idV_cells _ | rfl) hm ?_; clear hm; intro b1 w1 hm) | (go_at_call 70; refine (ho _).mono ?_; rintro e w1 ⟨rfl, hx⟩; replace hm := hm.call hx; clear hx) | (with_reducible first | refine stBs ?_ | refine stMs ?_ | refine stAp ?_ | refine stCo ?_)); (try simp only [k4, k5, k6, Act.put, k1, k2, k3]))
        go_ret
        exact ⟨⟨(i : Int), rfl, by rw [anyOdd_true hin HQ.out]; exact decide_eq_true (by omega)⟩, hm.ext⟩
    · obtain rfl : i = n := by omega
      have HL := hid hlow
      clear hi hin hlow
      go_wp2_with ((first | refine wpList_skip (by rfl) ?_ | (refine wlL (hm := hm) (hu := by first | exact undPeer | exact undID) (hi := by (try simp only [rowOf_size, idC_size, peerC_size]); first | exact sizePeer | exact sizeID) (h := ?_); (try simp only [Act.put, k1, k2, k3]); (try simp only [← peerV_eq, ← idV_eq])) | refine wlLC (hm := hm) (hu := by first | exact undInt) (h := ?_) | (refine wlS (hm := hm) (hv := (by first | rfl | exact idV_eq _ | exact labV_eq _ _ | exact rectV_eq _ _ _ _ | exact peerV_eq _ _ | exact letV_eq _)) (hi := by (try simp only [rowOf_size, idC_size, peerC_size]); first | exact sizePeer | exact sizeID) (hs := by first | (simp only [rowOf_size, idC_size, peerC_size]; done) | rfl) (h1 := by first | rfl | exact idC_one _ | exact peerC_one _ _ | exact rowOf_one _ _ (fun _ _ => rfl) | (simp only [List.size_toArray, List.length_cons, List.all_toArray', List.all_cons, List.all_nil, Value.oneCell', Bool.and_true, Bool.and_self]; done) | (simp [Value.oneCell']; done)) (h := ?_); clear hm; intro w1 hm; (try simp only [rowOf_set, k1, k2, k3, Value.cells, Act.eval, k7, k8, k9, kA, Option.getD_some] at hm)) | (refine wlSC (hm := hm) (hi := by first | exact sizeInt) (ho := by first | decide | (simp only [rowOf_size, idC_size, peerC_size]; omega) | (simp; done)) (h := ?_); clear hm; intro w1 hm; (try simp only [rowOf_set, k1, k2, k3, Value.cells, Act.eval, k7, k8, k9, kA, Option.getD_some] at hm)) | (refine wlA (hz := by first | exact zeroPeer | exact zeroID) (hm := hm) (h := ?_); clear hm; intro b1 w1 hm; (try simp only [rowOf_set, k1, k2, k3, Value.cells, Act.eval, k7, k8, k9, kA, Option.getD_some] at hm)) | (refine wl_box (by rfl) rfl (by first | exact peerV_cells _ _ | exact letV_cells _ | exact idV_cells _ | rfl) hm ?_; clear hm; intro b1 w1 hm) | (go_at_call 70; refine (ho _).mono ?_; rintro e w1 ⟨rfl, hx⟩; replace hm := hm.call hx; clear hx) | (with_reducible first | refine stBs ?_ | refine stMs ?_ | refine stAp ?_ | refine stCo ?_)); (try simp only [k4, k5, k6, Act.put, k1, k2, k3]))
      go_ret
      exact ⟨⟨-1, rfl, by rw [anyOdd_false HL.out]; rfl⟩, hm.ext⟩
theorem containsPeer_c (c : Option Addr) (n cap : Nat) (za : Nat → Int) (zp : Nat → Nat) (hn : n < 2 ^ 62) (w : World) (h : PeersV w c n za zp) :
    Calls Try.prog 69 #[.slice c n cap, .func (.func 70) #[] #[]] w fun e w' => e = .returned (.bool (anyOdd za n)) ∧ Ext w w' := by
  have H := hid h
  clear h
  obtain ⟨res, hres⟩ : ∃ res, anyOdd za n = res := ⟨_, rfl⟩
  rw [hres]
  have HRes := hid hres
  clear hres
  go_enter Try.func69, Try.ntmps69
  have hm := Mem.refl w []
  go_wp2_with (with_reducible first | refine stAl ?_ | refine stBo ?_ | refine stLo ?_ | refine stSo ?_ | refine stBu ?_ | refine stBs ?_ | refine stMs ?_ | refine stAp ?_ | refine stCo ?_)
  refine (indexPeer_c c n cap za zp hn _ (H.out.old hm)).mono ?_
  rintro e w2 ⟨⟨r, rfl, hr⟩, hx⟩
  replace hm := hm.call hx
  clear hx
  rw [HRes.out] at hr
  go_wp2_with ((first | refine wpList_skip (by rfl) ?_ | (refine wlL (hm := hm) (hu := by first | exact undPeer | exact undID) (hi := by (try simp only [rowOf_size, idC_size, peerC_size]); first | exact sizePeer | exact sizeID) (h := ?_); (try simp only [Act.put, k1, k2, k3]); (try simp only [← peerV_eq, ← idV_eq])) | refine wlLC (hm := hm) (hu := by first | exact undInt) (h := ?_) | (refine wlS (hm := hm) (hv := (by first | rfl | exact idV_eq _ | exact labV_eq _ _ | exact rectV_eq _ _ _ _ | exact peerV_eq _ _ | exact letV_eq _)) (hi := by (try simp only [rowOf_size, idC_size, peerC_size]); first | exact sizePeer | exact sizeID) (hs := by first | (simp only [rowOf_size, idC_size, peerC_size]; done) | rfl) (h1 := by first | rfl | exact idC_one _ | exact peerC_one _ _ | exact rowOf_one _ _ (fun _ _ => rfl) | (simp only [List.size_toArray, List.length_cons, List.all_toArray', List.all_cons, List.all_nil, Value.oneCell', Bool.and_true, Bool.and_self]; done) | (simp [Value.oneCell']; done)) (h := ?_); clear hm; intro w1 hm; (try simp only [rowOf_set, k1, k2, k3, Value.cells, Act.eval, k7, k8, k9, kA, Option.getD_some] at hm)) | (refine wlSC (hm := hm) (hi := by first | exact sizeInt) (ho := by first | decide | (simp only [rowOf_size, idC_size, peerC_size]; omega) | (simp; done)) (h := ?_); clear hm; intro w1 hm; (try simp only [rowOf_set, k1, k2, k3, Value.cells, Act.eval, k7, k8, k9, kA, Option.getD_some] at hm)) | (refine wlA (hz := by first | exact zeroPeer | exact zeroID) (hm := hm) (h := ?_); clear hm; intro b1 w1 hm; (try simp only [rowOf_set, k1, k2, k3, Value.cells, Act.eval, k7, k8, k9, kA, Option.getD_some] at hm)) | (refine wl_box (by rfl) rfl (by first | exact peerV_cells _ _ | exact letV_cells _ | exact idV_cells _ | rfl) hm ?_; clear hm; intro b1 w1 hm) | (go_at_call 67; refine (odd_c _ _).mono ?_; rintro e w1 ⟨rfl, hx⟩; replace hm := hm.call hx; clear hx) | (with_reducible first | refine stBs ?_ | refine stMs ?_ | refine stAp ?_ | refine stCo ?_)); (try simp only [k4, k5, k6, Act.put, k1, k2, k3]))
  go_ret
  exact ⟨by first | rfl | rw [← hr] <;> rfl, hm.ext⟩
end Go.Proofs.Ytijkmbebfodhdaa

/- (LetK)
  Letters: the document's parts of a kind; are two rows of ints the same?
-/
namespace Go.Proofs.Ytijkmbebfodhdaa
open Go.RowKit
set_option linter.unusedSimpArgs false
set_option linter.unusedVariables false
set_option maxHeartbeats 1000000
set_option maxRecDepth 20000

noncomputable def partFields : Array Field := match Try.prog.underlying 94 with | some (.struct fs) => fs | _ => #[]
theorem undParts : Try.prog.underlying 94 = some (.struct partFields) := by kernel_rfl
theorem sizeParts : (Try.prog.info? 94).map (·.size) = some 6 := by kernel_rfl
theorem zeroParts : (Try.prog.info? 94).bind (·.zero) = some (.agg #[.bool false, .bool false, .bool false, .bool false, .bool false, .bool false]) := by kernel_rfl
/-- The six flags of a number of bits. -/
def flagsV (m : Nat) : Value := .agg #[.bool (m % 2 = 1), .bool (m / 2 % 2 = 1), .bool (m / 4 % 2 = 1), .bool (m / 8 % 2 = 1), .bool (m / 16 % 2 = 1), .bool (m / 32 % 2 = 1)]
attribute [local irreducible] wpQuiet wpList wpAnyH Calls
theorem refOf_c (k : Int) : Says 63 #[.int .i64 k] (flagsV (partsM k)) := by
  intro w
  by_cases h : k = 1 ∨ k = 2 ∨ k = 3 ∨ k = 4 ∨ k = 6 ∨ k = 7 ∨ k = 8
  · rcases h with rfl | rfl | rfl | rfl | rfl | rfl | rfl <;> (
      go_enter Try.func63, Try.ntmps63
      have hm := Mem.refl w []
      go_wp2_with ((first | refine wpList_skip (by rfl) ?_ | (refine wlL (hm := hm) (hu := by first | exact undParts) (hi := by (try simp only [rowOf_size, idC_size, peerC_size]); first | exact sizeParts) (h := ?_); (try simp only [Act.put, k1, k2, k3]); (try simp only [← peerV_eq, ← idV_eq])) | refine wlLC (hm := hm) (hu := by first | exact undInt) (h := ?_) | (refine wlS (hm := hm) (hv := (by first | rfl | exact idV_eq _ | exact labV_eq _ _ | exact rectV_eq _ _ _ _ | exact peerV_eq _ _ | exact letV_eq _)) (hi := by (try simp only [rowOf_size, idC_size, peerC_size]); first | exact sizeParts) (hs := by first | (simp only [rowOf_size, idC_size, peerC_size]; done) | rfl) (h1 := by first | rfl | exact idC_one _ | exact peerC_one _ _ | exact rowOf_one _ _ (fun _ _ => rfl) | (simp only [List.size_toArray, List.length_cons, List.all_toArray', List.all_cons, List.all_nil, Value.oneCell', Bool.and_true, Bool.and_self]; done) | (simp [Value.oneCell']; done)) (h := ?_); clear hm; intro w1 hm; (try simp only [rowOf_set, k1, k2, k3, Value.cells, Act.eval, k7, k8, k9, kA, Option.getD_some] at hm)) | (refine wlSC (hm := hm) (hi := by first | exact sizeInt) (ho := by first | decide | (simp only [rowOf_size, idC_size, peerC_size]; omega) | (simp; done)) (h := ?_); clear hm; intro w1 hm; (try simp only [rowOf_set, k1, k2, k3, Value.cells, Act.eval, k7, k8, k9, kA, Option.getD_some] at hm)) | (refine wlA (hz := by first | exact zeroParts) (hm := hm) (h := ?_); clear hm; intro b1 w1 hm; (try simp only [rowOf_set, k1, k2, k3, Value.cells, Act.eval, k7, k8, k9, kA, Option.getD_some] at hm)) | (refine wl_box (by rfl) rfl (by first | exact peerV_cells _ _ | exact letV_cells _ | exact idV_cells _ | rfl) hm ?_; clear hm; intro b1 w1 hm) | (go_at_call 67; refine (odd_c _ _).mono ?_; rintro e w1 ⟨rfl, hx⟩; replace hm := hm.call hx; clear hx) | (with_reducible first | refine stBs ?_ | refine stMs ?_ | refine stAp ?_ | refine stCo ?_)); (try simp only [k4, k5, k6, Act.put, k1, k2, k3]))
      refine bodyPost_ret (results_cell_row (h := rfl) _ _ _ _ _ _ _ rfl (hm.heap (i := 0) rfl) undParts rfl (by first | exact sizeParts | (simp only [rowOf_size, idC_size, peerC_size]; exact sizeParts))) rfl ?_
      exact ⟨rfl, hm.ext⟩)
  · have e1 : ¬ k = 1 := by omega
    have e2 : ¬ k = 2 := by omega
    have e3 : ¬ k = 3 := by omega
    have e4 : ¬ k = 4 := by omega
    have e6 : ¬ k = 6 := by omega
    have e7 : ¬ k = 7 := by omega
    have e8 : ¬ k = 8 := by omega
    have hp : partsM k = 0 := by unfold partsM; rw [if_neg e1, if_neg e2, if_neg (by omega), if_neg e4, if_neg e8]
    rw [hp]
    have b1 : (k == 1) = false := by rw [beq_eq_false_iff_ne]; exact e1
    have b2 : (k == 2) = false := by rw [beq_eq_false_iff_ne]; exact e2
    have b3 : (k == 3) = false := by rw [beq_eq_false_iff_ne]; exact e3
    have b4 : (k == 4) = false := by rw [beq_eq_false_iff_ne]; exact e4
    have b6 : (k == 6) = false := by rw [beq_eq_false_iff_ne]; exact e6
    have b7 : (k == 7) = false := by rw [beq_eq_false_iff_ne]; exact e7
    have b8 : (k == 8) = false := by rw [beq_eq_false_iff_ne]; exact e8
    clear h
    go_enter Try.func63, Try.ntmps63
    have hm := Mem.refl w []
    go_wp2_with ((first | refine wpList_skip (by rfl) ?_ | (refine wlL (hm := hm) (hu := by first | exact undParts) (hi := by (try simp only [rowOf_size, idC_size, peerC_size]); first | exact sizeParts) (h := ?_); (try simp only [Act.put, k1, k2, k3]); (try simp only [← peerV_eq, ← idV_eq])) | refine wlLC (hm := hm) (hu := by first | exact undInt) (h := ?_) | (refine wlS (hm := hm) (hv := (by first | rfl | exact idV_eq _ | exact labV_eq _ _ | exact rectV_eq _ _ _ _ | exact peerV_eq _ _ | exact letV_eq _)) (hi := by (try simp only [rowOf_size, idC_size, peerC_size]); first | exact sizeParts) (hs := by first | (simp only [rowOf_size, idC_size, peerC_size]; done) | rfl) (h1 := by first | rfl | exact idC_one _ | exact peerC_one _ _ | exact rowOf_one _ _ (fun _ _ => rfl) | (simp only [List.size_toArray, List.length_cons, List.all_toArray', List.all_cons, List.all_nil, Value.oneCell', Bool.and_true, Bool.and_self]; done) | (simp [Value.oneCell']; done)) (h := ?_); clear hm; intro w1 hm; (try simp only [rowOf_set, k1, k2, k3, Value.cells, Act.eval, k7, k8, k9, kA, Option.getD_some] at hm)) | (refine wlSC (hm := hm) (hi := by first | exact sizeInt) (ho := by first | decide | (simp only [rowOf_size, idC_size, peerC_size]; omega) | (simp; done)) (h := ?_); clear hm; intro w1 hm; (try simp only [rowOf_set, k1, k2, k3, Value.cells, Act.eval, k7, k8, k9, kA, Option.getD_some] at hm)) | (refine wlA (hz := by first | exact zeroParts) (hm := hm) (h := ?_); clear hm; intro b1 w1 hm; (try simp only [rowOf_set, k1, k2, k3, Value.cells, Act.eval, k7, k8, k9, kA, Option.getD_some] at hm)) | (refine wl_box (by rfl) rfl (by first | exact peerV_cells _ _ | exact letV_cells _ | exact idV_cells _ | rfl) hm ?_; clear hm; intro b1 w1 hm) | (go_at_call 67; refine (odd_c _ _).mono ?_; rintro e w1 ⟨rfl, hx⟩; replace hm := hm.call hx; clear hx) | (with_reducible first | refine stBs ?_ | refine stMs ?_ | refine stAp ?_ | refine stCo ?_)); (try simp only [k4, k5, k6, Act.put, k1, k2, k3]))
    refine bodyPost_ret (results_cell_row (h := rfl) _ _ _ _ _ _ _ rfl (hm.heap (i := 0) rfl) undParts rfl (by first | exact sizeParts | (simp only [rowOf_size, idC_size, peerC_size]; exact sizeParts))) rfl ?_
    exact ⟨rfl, hm.ext⟩
end Go.Proofs.Ytijkmbebfodhdaa

/- (LetL)
  Letters: are two rows of ints, of peers, the same?
-/
namespace Go.Proofs.Ytijkmbebfodhdaa
open Go.RowKit
set_option linter.unusedSimpArgs false
set_option linter.unusedVariables false
set_option maxHeartbeats 1000000
set_option maxRecDepth 20000

theorem ld_old {P : Program} {a : Act} {w : World} {dst : Option Tmp} {ty : TypeId} {pos : String} {aft : Array Edge} {gd : Option (Nat × Bool)} {T : TypeId} {x : Operand} {ad : Addr} {v : Value} {d : TypeDesc} (hx : a.eval x = .pointer (some ad)) (hcell : w.cell? ad = some v)
    (hu : P.underlying T = some d) (hd : (match d with | .struct _ | .array _ _ => true | _ => false) = false) : (execOp a.eval ⟨dst, .load T x, ty, pos, aft, gd⟩).run P w = .ok (.value v) w := by
  have hagg : (isAgg T).run P w = .ok false w := by
    unfold isAgg
    rw [Sem.run_bind, run_underlying hu w]
    cases d <;> simp_all
  unfold execOp
  simp [hx, Instr.loadAt, Instr.sureAddr, Sem.run_bind, loadVar, hagg, hcell]
def sameInts (n : Nat) (z : Nat → Int) (m : Nat) (y : Nat → Int) : Bool := n == m && (List.range n).all fun i => z i == y i
theorem sameInts_no {n m : Nat} {z y : Nat → Int} (h : n ≠ m) : sameInts n z m y = false := by
  unfold sameInts
  rw [beq_eq_false_iff_ne.2 h, Bool.false_and]
theorem sameInts_at {n : Nat} {z y : Nat → Int} {i : Nat} (hi : i < n) (h : z i ≠ y i) : sameInts n z n y = false := by
  unfold sameInts
  rw [Bool.and_eq_false_iff]
  right
  rw [List.all_eq_false]
  exact ⟨i, List.mem_range.2 hi, by simpa using h⟩
theorem sameInts_all {n : Nat} {z y : Nat → Int} (h : ∀ i, i < n → z i = y i) : sameInts n z n y = true := by
  unfold sameInts
  rw [beq_self_eq_true, Bool.true_and, List.all_eq_true]
  intro i hi
  rw [h i (List.mem_range.1 hi)]
  simp
attribute [local irreducible] wpQuiet wpList wpAnyH Calls
theorem ints_c (c : Option Addr) (n cap : Nat) (z : Nat → Int) (c' : Option Addr) (m cap' : Nat) (y : Nat → Int) (hn : n < 2 ^ 62) (w : World) (h : IntsV w c n z) (h' : IntsV w c' m y) :
    Calls Try.prog 79 #[.slice c n cap, .slice c' m cap'] w fun e w' => e = .returned (.bool (sameInts n z m y)) ∧ Ext w w' := by
  by_cases hnm : n = m
  · subst hnm
    obtain ⟨res, hres⟩ : ∃ res, sameInts n z n y = res := ⟨_, rfl⟩
    rw [hres]
    have HRes := hid hres
    have HN := hid hn
    have H := hid h
    have H' := hid h'
    clear hres hn h h'
    go_enter Try.func79, Try.ntmps79
    have hm := Mem.refl w []
    go_wp2_with ((first | refine wpList_skip (by rfl) ?_ | (refine wlL (hm := hm) (hu := by first | exact undPeer | exact undID) (hi := by (try simp only [rowOf_size, idC_size, peerC_size]); first | exact sizePeer | exact sizeID) (h := ?_); (try simp only [Act.put, k1, k2, k3]); (try simp only [← peerV_eq, ← idV_eq])) | refine wlLC (hm := hm) (hu := by first | exact undInt) (h := ?_) | (refine wlS (hm := hm) (hv := (by first | rfl | exact idV_eq _ | exact labV_eq _ _ | exact rectV_eq _ _ _ _ | exact peerV_eq _ _ | exact letV_eq _)) (hi := by (try simp only [rowOf_size, idC_size, peerC_size]); first | exact sizePeer | exact sizeID) (hs := by first | (simp only [rowOf_size, idC_size, peerC_size]; done) | rfl) (h1 := by first | rfl | exact idC_one _ | exact peerC_one _ _ | exact rowOf_one _ _ (fun _ _ => rfl) | (simp only [List.size_toArray, List.length_cons, List.all_toArray', List.all_cons, List.all_nil, Value.oneCell', Bool.and_true, Bool.and_self]; done) | (simp [Value.oneCell']; done)) (h := ?_); clear hm; intro w1 hm; (try simp only [rowOf_set, k1, k2, k3, Value.cells, Act.eval, k7, k8, k9, kA, Option.getD_some] at hm)) | (refine wlSC (hm := hm) (hi := by first | exact sizeInt) (ho := by first | decide | (simp only [rowOf_size, idC_size, peerC_size]; omega) | (simp; done)) (h := ?_); clear hm; intro w1 hm; (try simp only [rowOf_set, k1, k2, k3, Value.cells, Act.eval, k7, k8, k9, kA, Option.getD_some] at hm)) | (refine wlA (hz := by first | exact zeroPeer | exact zeroID) (hm := hm) (h := ?_); clear hm; intro b1 w1 hm; (try simp only [rowOf_set, k1, k2, k3, Value.cells, Act.eval, k7, k8, k9, kA, Option.getD_some] at hm)) | (refine wl_box (by rfl) rfl (by first | exact peerV_cells _ _ | exact letV_cells _ | exact idV_cells _ | rfl) hm ?_; clear hm; intro b1 w1 hm) | (go_at_call 67; refine (odd_c _ _).mono ?_; rintro e w1 ⟨rfl, hx⟩; replace hm := hm.call hx; clear hx) | (with_reducible first | refine stBs ?_ | refine stMs ?_ | refine stAp ?_ | refine stCo ?_)); (try simp only [k4, k5, k6, Act.put, k1, k2, k3]))
    go_loopw [5] (fun vi wr => ∃ i : Nat, i ≤ n ∧ vi = .int .i64 (i : Int) ∧ (∀ j, j < i → z j = y j) ∧ Mem w [] [] wr)
      (fun vi _ => (n - intOf vi).toNat)
    case atStart => exact ⟨0, by omega, rfl, fun j hj => by omega, hm⟩
    case round =>
      clear hm
      obtain ⟨i, hi, rfl, hlow, hm⟩ := hrel
      by_cases hin : i < n
      · obtain ⟨a, rfl, hcell⟩ := H.out i hin
        obtain ⟨a', rfl, hcell'⟩ := H'.out i hin
        have e1 : (i : Int) < (n : Int) := by omega
        have e2 : (0 : Int) ≤ (i : Int) := by omega
        have g1 : IntKind.i64.wrap ((i : Int) + 1) = (i : Int) + 1 := wrap_i64 (by have := HN.out; omega) (by have := HN.out; omega)
        obtain ⟨u, hu⟩ : ∃ u, z i = u := ⟨_, rfl⟩
        obtain ⟨v, hv⟩ : ∃ v, y i = v := ⟨_, rfl⟩
        rw [hu] at hcell
        rw [hv] at hcell'
        have C1 := hid hcell
        have C2 := hid hcell'
        have HU := hid hu
        have HV := hid hv
        have HL := hid hlow
        clear hcell hcell' hu hv hlow hi
        go_wp2_with ((first | refine wpList_skip (by rfl) ?_ | (refine wlL (hm := hm) (hu := by first | exact undPeer | exact undID) (hi := by (try simp only [rowOf_size, idC_size, peerC_size]); first | exact sizePeer | exact sizeID) (h := ?_); (try simp only [Act.put, k1, k2, k3]); (try simp only [← peerV_eq, ← idV_eq])) | refine wlLC (hm := hm) (hu := by first | exact undInt) (h := ?_) | (refine wlS (hm := hm) (hv := (by first | rfl | exact idV_eq _ | exact labV_eq _ _ | exact rectV_eq _ _ _ _ | exact peerV_eq _ _ | exact letV_eq _)) (hi := by (try simp only [rowOf_size, idC_size, peerC_size]); first | exact sizePeer | exact sizeID) (hs := by first | (simp only [rowOf_size, idC_size, peerC_size]; done) | rfl) (h1 := by first | rfl | exact idC_one _ | exact peerC_one _ _ | exact rowOf_one _ _ (fun _ _ => rfl) | (simp only [List.size_toArray, List.length_cons, List.all_toArray', List.all_cons, List.all_nil, Value.oneCell', Bool.and_true, Bool.and_self]; done) | (simp [Value.oneCell']; done)) (h := ?_); clear hm; intro w1 hm; (try simp only [rowOf_set, k1, k2, k3, Value.cells, Act.eval, k7, k8, k9, kA, Option.getD_some] at hm)) | (refine wlSC (hm := hm) (hi := by first | exact sizeInt) (ho := by first | decide | (simp only [rowOf_size, idC_size, peerC_size]; omega) | (simp; done)) (h := ?_); clear hm; intro w1 hm; (try simp only [rowOf_set, k1, k2, k3, Value.cells, Act.eval, k7, k8, k9, kA, Option.getD_some] at hm)) | (refine wlA (hz := by first | exact zeroPeer | exact zeroID) (hm := hm) (h := ?_); clear hm; intro b1 w1 hm; (try simp only [rowOf_set, k1, k2, k3, Value.cells, Act.eval, k7, k8, k9, kA, Option.getD_some] at hm)) | (refine wl_box (by rfl) rfl (by first | exact peerV_cells _ _ | exact letV_cells _ | exact idV_cells _ | rfl) hm ?_; clear hm; intro b1 w1 hm) | (go_at_call 67; refine (odd_c _ _).mono ?_; rintro e w1 ⟨rfl, hx⟩; replace hm := hm.call hx; clear hx) | (with_reducible first | refine stBs ?_ | refine stMs ?_ | refine stAp ?_ | refine stCo ?_)); (try simp only [k4, k5, k6, Act.put, k1, k2, k3]))
        go_wp2_with (with_reducible first | refine stAl ?_ | refine stBo ?_ | refine stLo ?_ | refine stSo ?_ | refine stBu ?_ | refine stBs ?_ | refine stMs ?_ | refine stAp ?_ | refine stCo ?_); refine wp_quiet_mem (by kernel_rfl) (by kernel_rfl) hm ?_
        refine wqS (h := ?_)
        simp only [Act.put, k1, k2, k3]
        refine wqS (h := ?_)
        simp only [Act.put, k1, k2, k3]
        refine wqS (h := ?_)
        simp only [Act.put, k1, k2, k3]
        refine wq_run (v := .int .i64 u) (by rfl) (fun w' hC => ld_old rfl (by first | exact cell_old hC C1.out | simpa using cell_old hC C1.out) undInt rfl) ?_; simp only [Act.put, k1, k2, k3]
        refine wqS (h := ?_)
        simp only [Act.put, k1, k2, k3]
        refine wqS (h := ?_)
        simp only [Act.put, k1, k2, k3]
        refine wqS (h := ?_)
        simp only [Act.put, k1, k2, k3]
        refine wq_run (v := .int .i64 v) (by rfl) (fun w' hC => ld_old rfl (by first | exact cell_old hC C2.out | simpa using cell_old hC C2.out) undInt rfl) ?_; simp only [Act.put, k1, k2, k3]
        repeat ((first | refine wq_skip (by rfl) ?_ | (refine wqL (hu := by first | exact undPeer | exact undID) (hi := by (try simp only [rowOf_size, idC_size, peerC_size]); first | exact sizePeer | exact sizeID) (h := ?_); (try simp only [Act.put, k1, k2, k3]); (try simp only [← peerV_eq, ← idV_eq])) | refine wqLC (hu := by first | exact undInt) (h := ?_) | ((with_reducible show wpQuiet _ _ _ _ (⟨_, .call _, _, _, _, _⟩ :: _) _); refine wq_ask (by rfl) ?_; apply Exists.intro; refine ⟨?_, ?_⟩; (focus (intro w hC; go_simp; first | (go_at_call 67; exact (odd_c _ _).mono fun e w' h => ⟨h.1, hC.call h.2⟩)))) | refine wqS (h := ?_)); (try simp only [k4, k5, k6, Act.put, k1, k2, k3]))
        refine wpQuiet_nil ?_; clear hm; intro w5 hm
        by_cases huv : u = v
        · subst huv
          have d1 : (u != u) = false := by simp
          have d2 : (u == u) = true := by simp
          go_wp2_with ((first | refine wpList_skip (by rfl) ?_ | (refine wlL (hm := hm) (hu := by first | exact undPeer | exact undID) (hi := by (try simp only [rowOf_size, idC_size, peerC_size]); first | exact sizePeer | exact sizeID) (h := ?_); (try simp only [Act.put, k1, k2, k3]); (try simp only [← peerV_eq, ← idV_eq])) | refine wlLC (hm := hm) (hu := by first | exact undInt) (h := ?_) | (refine wlS (hm := hm) (hv := (by first | rfl | exact idV_eq _ | exact labV_eq _ _ | exact rectV_eq _ _ _ _ | exact peerV_eq _ _ | exact letV_eq _)) (hi := by (try simp only [rowOf_size, idC_size, peerC_size]); first | exact sizePeer | exact sizeID) (hs := by first | (simp only [rowOf_size, idC_size, peerC_size]; done) | rfl) (h1 := by first | rfl | exact idC_one _ | exact peerC_one _ _ | exact rowOf_one _ _ (fun _ _ => rfl) | (simp only [List.size_toArray, List.length_cons, List.all_toArray', List.all_cons, List.all_nil, Value.oneCell', Bool.and_true, Bool.and_self]; done) | (simp [Value.oneCell']; done)) (h := ?_); clear hm; intro w1 hm; (try simp only [rowOf_set, k1, k2, k3, Value.cells, Act.eval, k7, k8, k9, kA, Option.getD_some] at hm)) | (refine wlSC (hm := hm) (hi := by first | exact sizeInt) (ho := by first | decide | (simp only [rowOf_size, idC_size, peerC_size]; omega) | (simp; done)) (h := ?_); clear hm; intro w1 hm; (try simp only [rowOf_set, k1, k2, k3, Value.cells, Act.eval, k7, k8, k9, kA, Option.getD_some] at hm)) | (refine wlA (hz := by first | exact zeroPeer | exact zeroID) (hm := hm) (h := ?_); clear hm; intro b1 w1 hm; (try simp only [rowOf_set, k1, k2, k3, Value.cells, Act.eval, k7, k8, k9, kA, Option.getD_some] at hm)) | (refine wl_box (by rfl) rfl (by first | exact peerV_cells _ _ | exact letV_cells _ | exact idV_cells _ | rfl) hm ?_; clear hm; intro b1 w1 hm) | (go_at_call 67; refine (odd_c _ _).mono ?_; rintro e w1 ⟨rfl, hx⟩; replace hm := hm.call hx; clear hx) | (with_reducible first | refine stBs ?_ | refine stMs ?_ | refine stAp ?_ | refine stCo ?_)); (try simp only [k4, k5, k6, Act.put, k1, k2, k3]))
          go_roundw
          case rel => exact ⟨i + 1, by omega, by go_num, fun j hj => by
            by_cases hji : j = i
            · rw [hji, HU.out, HV.out]
            · exact HL.out j (by omega), hm⟩
          case measure => (simp [intOf]; try omega)
        · have d1 : (u != v) = true := by simp [bne, huv]
          have d2 : (u == v) = false := by simp [huv]
          go_wp2_with ((first | refine wpList_skip (by rfl) ?_ | (refine wlL (hm := hm) (hu := by first | exact undPeer | exact undID) (hi := by (try simp only [rowOf_size, idC_size, peerC_size]); first | exact sizePeer | exact sizeID) (h := ?_); (try simp only [Act.put, k1, k2, k3]); (try simp only [← peerV_eq, ← idV_eq])) | refine wlLC (hm := hm) (hu := by first | exact undInt) (h := ?_) | (refine wlS (hm := hm) (hv := (by first | rfl | exact idV_eq _ | exact labV_eq _ _ | exact rectV_eq _ _ _ _ | exact peerV_eq _ _ | exact letV_eq _)) (hi := by (try simp only [rowOf_size, idC_size, peerC_size]); first | exact sizePeer | exact sizeID) (hs := by first | (simp only [rowOf_size, idC_size, peerC_size]; done) | rfl) (h1 := by first | rfl | exact idC_one _ | exact peerC_one _ _ | exact rowOf_one _ _ (fun _ _ => rfl) | (simp only [List.size_toArray, List.length_cons, List.all_toArray', List.all_cons, List.all_nil, Value.oneCell', Bool.and_true, Bool.and_self]; done) | (simp [Value.oneCell']; done)) (h := ?_); clear hm; intro w1 hm; (try simp only [rowOf_set, k1, k2, k3, Value.cells, Act.eval, k7, k8, k9, kA, Option.getD_some] at hm)) | (refine wlSC (hm := hm) (hi := by first | exact sizeInt) (ho := by first | decide | (simp only [rowOf_size, idC_size, peerC_size]; omega) | (simp; done)) (h := ?_); clear hm; intro w1 hm; (try simp only [rowOf_set, k1, k2, k3, Value.cells, Act.eval, k7, k8, k9, kA, Option.getD_some] at hm)) | (refine wlA (hz := by first | exact zeroPeer | exact zeroID) (hm := hm) (h := ?_); clear hm; intro b1 w1 hm; (try simp only [rowOf_set, k1, k2, k3, Value.cells, Act.eval, k7, k8, k9, kA, Option.getD_some] at hm)) | (refine wl_box (by rfl) rfl (by first | exact peerV_cells _ _ | exact letV_cells _ | exact idV_cells _ | rfl) hm ?_; clear hm; intro b1 w1 hm) | (go_at_call 67; refine (odd_c _ _).mono ?_; rintro e w1 ⟨rfl, hx⟩; replace hm := hm.call hx; clear hx) | (with_reducible first | refine stBs ?_ | refine stMs ?_ | refine stAp ?_ | refine stCo ?_)); (try simp only [k4, k5, k6, Act.put, k1, k2, k3]))
          go_ret
          exact ⟨by rw [← HRes.out, sameInts_at hin (by rw [HU.out, HV.out]; exact huv)] <;> rfl, hm.ext⟩
      · obtain rfl : i = n := by omega
        have HL := hid hlow
        clear hi hin hlow
        go_wp2_with ((first | refine wpList_skip (by rfl) ?_ | (refine wlL (hm := hm) (hu := by first | exact undPeer | exact undID) (hi := by (try simp only [rowOf_size, idC_size, peerC_size]); first | exact sizePeer | exact sizeID) (h := ?_); (try simp only [Act.put, k1, k2, k3]); (try simp only [← peerV_eq, ← idV_eq])) | refine wlLC (hm := hm) (hu := by first | exact undInt) (h := ?_) | (refine wlS (hm := hm) (hv := (by first | rfl | exact idV_eq _ | exact labV_eq _ _ | exact rectV_eq _ _ _ _ | exact peerV_eq _ _ | exact letV_eq _)) (hi := by (try simp only [rowOf_size, idC_size, peerC_size]); first | exact sizePeer | exact sizeID) (hs := by first | (simp only [rowOf_size, idC_size, peerC_size]; done) | rfl) (h1 := by first | rfl | exact idC_one _ | exact peerC_one _ _ | exact rowOf_one _ _ (fun _ _ => rfl) | (simp only [List.size_toArray, List.length_cons, List.all_toArray', List.all_cons, List.all_nil, Value.oneCell', Bool.and_true, Bool.and_self]; done) | (simp [Value.oneCell']; done)) (h := ?_); clear hm; intro w1 hm; (try simp only [rowOf_set, k1, k2, k3, Value.cells, Act.eval, k7, k8, k9, kA, Option.getD_some] at hm)) | (refine wlSC (hm := hm) (hi := by first | exact sizeInt) (ho := by first | decide | (simp only [rowOf_size, idC_size, peerC_size]; omega) | (simp; done)) (h := ?_); clear hm; intro w1 hm; (try simp only [rowOf_set, k1, k2, k3, Value.cells, Act.eval, k7, k8, k9, kA, Option.getD_some] at hm)) | (refine wlA (hz := by first | exact zeroPeer | exact zeroID) (hm := hm) (h := ?_); clear hm; intro b1 w1 hm; (try simp only [rowOf_set, k1, k2, k3, Value.cells, Act.eval, k7, k8, k9, kA, Option.getD_some] at hm)) | (refine wl_box (by rfl) rfl (by first | exact peerV_cells _ _ | exact letV_cells _ | exact idV_cells _ | rfl) hm ?_; clear hm; intro b1 w1 hm) | (go_at_call 67; refine (odd_c _ _).mono ?_; rintro e w1 ⟨rfl, hx⟩; replace hm := hm.call hx; clear hx) | (with_reducible first | refine stBs ?_ | refine stMs ?_ | refine stAp ?_ | refine stCo ?_)); (try simp only [k4, k5, k6, Act.put, k1, k2, k3]))
        go_ret
        exact ⟨by rw [← HRes.out, sameInts_all HL.out] <;> rfl, hm.ext⟩
  · rw [sameInts_no hnm]
    have d0 : ((n : Int) != (m : Int)) = true := by rw [bne_iff_ne]; omega
    have d1 : ¬ (n : Int) = (m : Int) := by omega
    clear h h'
    go_enter Try.func79, Try.ntmps79
    have hm := Mem.refl w []
    go_wp2_with ((first | refine wpList_skip (by rfl) ?_ | (refine wlL (hm := hm) (hu := by first | exact undPeer | exact undID) (hi := by (try simp only [rowOf_size, idC_size, peerC_size]); first | exact sizePeer | exact sizeID) (h := ?_); (try simp only [Act.put, k1, k2, k3]); (try simp only [← peerV_eq, ← idV_eq])) | refine wlLC (hm := hm) (hu := by first | exact undInt) (h := ?_) | (refine wlS (hm := hm) (hv := (by first | rfl | exact idV_eq _ | exact labV_eq _ _ | exact rectV_eq _ _ _ _ | exact peerV_eq _ _ | exact letV_eq _)) (hi := by (try simp only [rowOf_size, idC_size, peerC_size]); first | exact sizePeer | exact sizeID) (hs := by first | (simp only [rowOf_size, idC_size, peerC_size]; done) | rfl) (h1 := by first | rfl | exact idC_one _ | exact peerC_one _ _ | exact rowOf_one _ _ (fun _ _ => rfl) | (simp only [List.size_toArray, List.length_cons, List.all_toArray', List.all_cons, List.all_nil, Value.oneCell', Bool.and_true, Bool.and_self]; done) | (simp [Value.oneCell']; done)) (h := ?_); clear hm; intro w1 hm; (try simp only [rowOf_set, k1, k2, k3, Value.cells, Act.eval, k7, k8, k9, kA, Option.getD_some] at hm)) | (refine wlSC (hm := hm) (hi := by first | exact sizeInt) (ho := by first | decide | (simp only [rowOf_size, idC_size, peerC_size]; omega) | (simp; done)) (h := ?_); clear hm; intro w1 hm; (try simp only [rowOf_set, k1, k2, k3, Value.cells, Act.eval, k7, k8, k9, kA, Option.getD_some] at hm)) | (refine wlA (hz := by first | exact zeroPeer | exact zeroID) (hm := hm) (h := ?_); clear hm; intro b1 w1 hm; (try simp only [rowOf_set, k1, k2, k3, Value.cells, Act.eval, k7, k8, k9, kA, Option.getD_some] at hm)) | (refine wl_box (by rfl) rfl (by first | exact peerV_cells _ _ | exact letV_cells _ | exact idV_cells _ | rfl) hm ?_; clear hm; intro b1 w1 hm) | (go_at_call 67; refine (odd_c _ _).mono ?_; rintro e w1 ⟨rfl, hx⟩; replace hm := hm.call hx; clear hx) | (with_reducible first | refine stBs ?_ | refine stMs ?_ | refine stAp ?_ | refine stCo ?_)); (try simp only [k4, k5, k6, Act.put, k1, k2, k3]))
    go_ret
    exact ⟨rfl, hm.ext⟩
end Go.Proofs.Ytijkmbebfodhdaa

/- (LetM)
  Letters: are two rows of peers the same?
-/
namespace Go.Proofs.Ytijkmbebfodhdaa
open Go.RowKit
set_option linter.unusedSimpArgs false
set_option linter.unusedVariables false
set_option maxHeartbeats 1000000
set_option maxRecDepth 20000

def samePeers (n : Nat) (za : Nat → Int) (zp : Nat → Nat) (m : Nat) (ya : Nat → Int) (yp : Nat → Nat) : Bool := n == m && (List.range n).all fun i => samePeer (za i) (zp i) (ya i) (yp i)
theorem samePeers_no {n m : Nat} {za : Nat → Int} {zp : Nat → Nat} {ya : Nat → Int} {yp : Nat → Nat} (h : n ≠ m) : samePeers n za zp m ya yp = false := by
  unfold samePeers
  rw [beq_eq_false_iff_ne.2 h, Bool.false_and]
theorem samePeers_at {n : Nat} {za : Nat → Int} {zp : Nat → Nat} {ya : Nat → Int} {yp : Nat → Nat} {i : Nat} (hi : i < n) (h : samePeer (za i) (zp i) (ya i) (yp i) = false) : samePeers n za zp n ya yp = false := by
  unfold samePeers
  rw [Bool.and_eq_false_iff]
  right
  rw [List.all_eq_false]
  exact ⟨i, List.mem_range.2 hi, by rw [h]; decide⟩
theorem samePeers_all {n : Nat} {za : Nat → Int} {zp : Nat → Nat} {ya : Nat → Int} {yp : Nat → Nat} (h : ∀ i, i < n → samePeer (za i) (zp i) (ya i) (yp i) = true) : samePeers n za zp n ya yp = true := by
  unfold samePeers
  rw [beq_self_eq_true, Bool.true_and, List.all_eq_true]
  intro i hi
  exact h i (List.mem_range.1 hi)
attribute [local irreducible] wpQuiet wpList wpAnyH Calls
theorem peers_c (c : Option Addr) (n cap : Nat) (za : Nat → Int) (zp : Nat → Nat) (c' : Option Addr) (m cap' : Nat) (ya : Nat → Int) (yp : Nat → Nat) (hn : n < 2 ^ 62) (w : World) (h : PeersV w c n za zp) (h' : PeersV w c' m ya yp) :
    Calls Try.prog 80 #[.slice c n cap, .slice c' m cap'] w fun e w' => e = .returned (.bool (samePeers n za zp m ya yp)) ∧ Ext w w' := by
  by_cases hnm : n = m
  · subst hnm
    obtain ⟨res, hres⟩ : ∃ res, samePeers n za zp n ya yp = res := ⟨_, rfl⟩
    rw [hres]
    have HRes := hid hres
    have HN := hid hn
    have H := hid h
    have H' := hid h'
    clear hres hn h h'
    go_enter Try.func80, Try.ntmps80
    have hm := Mem.refl w []
    go_wp2_with ((first | refine wpList_skip (by rfl) ?_ | (refine wlL (hm := hm) (hu := by first | exact undPeer | exact undID) (hi := by (try simp only [rowOf_size, idC_size, peerC_size]); first | exact sizePeer | exact sizeID) (h := ?_); (try simp only [Act.put, k1, k2, k3]); (try simp only [← peerV_eq, ← idV_eq])) | refine wlLC (hm := hm) (hu := by first | exact undInt) (h := ?_) | (refine wlS (hm := hm) (hv := (by first | rfl | exact idV_eq _ | exact labV_eq _ _ | exact rectV_eq _ _ _ _ | exact peerV_eq _ _ | exact letV_eq _)) (hi := by (try simp only [rowOf_size, idC_size, peerC_size]); first | exact sizePeer | exact sizeID) (hs := by first | (simp only [rowOf_size, idC_size, peerC_size]; done) | rfl) (h1 := by first | rfl | exact idC_one _ | exact peerC_one _ _ | exact rowOf_one _ _ (fun _ _ => rfl) | (simp only [List.size_toArray, List.length_cons, List.all_toArray', List.all_cons, List.all_nil, Value.oneCell', Bool.and_true, Bool.and_self]; done) | (simp [Value.oneCell']; done)) (h := ?_); clear hm; intro w1 hm; (try simp only [rowOf_set, k1, k2, k3, Value.cells, Act.eval, k7, k8, k9, kA, Option.getD_some] at hm)) | (refine wlSC (hm := hm) (hi := by first | exact sizeInt) (ho := by first | decide | (simp only [rowOf_size, idC_size, peerC_size]; omega) | (simp; done)) (h := ?_); clear hm; intro w1 hm; (try simp only [rowOf_set, k1, k2, k3, Value.cells, Act.eval, k7, k8, k9, kA, Option.getD_some] at hm)) | (refine wlA (hz := by first | exact zeroPeer | exact zeroID) (hm := hm) (h := ?_); clear hm; intro b1 w1 hm; (try simp only [rowOf_set, k1, k2, k3, Value.cells, Act.eval, k7, k8, k9, kA, Option.getD_some] at hm)) | (refine wl_box (by rfl) rfl (by first | exact peerV_cells _ _ | exact letV_cells _ | exact idV_cells _ | rfl) hm ?_; clear hm; intro b1 w1 hm) | (go_at_call 67; refine (odd_c _ _).mono ?_; rintro e w1 ⟨rfl, hx⟩; replace hm := hm.call hx; clear hx) | (with_reducible first | refine stBs ?_ | refine stMs ?_ | refine stAp ?_ | refine stCo ?_)); (try simp only [k4, k5, k6, Act.put, k1, k2, k3]))
    go_loopw [5] (fun vi wr => ∃ i : Nat, i ≤ n ∧ vi = .int .i64 (i : Int) ∧ (∀ j, j < i → samePeer (za j) (zp j) (ya j) (yp j) = true) ∧ Mem w [] [] wr)
      (fun vi _ => (n - intOf vi).toNat)
    case atStart => exact ⟨0, by omega, rfl, fun j hj => by omega, hm⟩
    case round =>
      clear hm
      obtain ⟨i, hi, rfl, hlow, hm⟩ := hrel
      by_cases hin : i < n
      · obtain ⟨a, rfl, hcell⟩ := H.out i hin
        obtain ⟨a', rfl, hcell'⟩ := H'.out i hin
        have e1 : (i : Int) < (n : Int) := by omega
        have e2 : (0 : Int) ≤ (i : Int) := by omega
        have g1 : IntKind.i64.wrap ((i : Int) + 1) = (i : Int) + 1 := wrap_i64 (by have := HN.out; omega) (by have := HN.out; omega)
        have HQ := hid (show samePeer (za i) (zp i) (ya i) (yp i) = samePeer (za i) (zp i) (ya i) (yp i) from rfl)
        obtain ⟨q, hq⟩ : ∃ q, samePeer (za i) (zp i) (ya i) (yp i) = q := ⟨_, rfl⟩
        have HQ := hid hq
        obtain ⟨u, hu⟩ : ∃ u, za i = u := ⟨_, rfl⟩
        obtain ⟨v, hv⟩ : ∃ v, ya i = v := ⟨_, rfl⟩
        obtain ⟨u', hu'⟩ : ∃ u, zp i = u := ⟨_, rfl⟩
        obtain ⟨v', hv'⟩ : ∃ v, yp i = v := ⟨_, rfl⟩
        rw [hu, hu'] at hcell
        rw [hv, hv'] at hcell'
        rw [hu, hv, hu', hv'] at hq
        have C1 := hid hcell
        have C2 := hid hcell'
        have HL := hid hlow
        clear hcell hcell' hu hv hu' hv' hlow hi
        go_wp2_with ((first | refine wpList_skip (by rfl) ?_ | (refine wlL (hm := hm) (hu := by first | exact undPeer | exact undID) (hi := by (try simp only [rowOf_size, idC_size, peerC_size]); first | exact sizePeer | exact sizeID) (h := ?_); (try simp only [Act.put, k1, k2, k3]); (try simp only [← peerV_eq, ← idV_eq])) | refine wlLC (hm := hm) (hu := by first | exact undInt) (h := ?_) | (refine wlS (hm := hm) (hv := (by first | rfl | exact idV_eq _ | exact labV_eq _ _ | exact rectV_eq _ _ _ _ | exact peerV_eq _ _ | exact letV_eq _)) (hi := by (try simp only [rowOf_size, idC_size, peerC_size]); first | exact sizePeer | exact sizeID) (hs := by first | (simp only [rowOf_size, idC_size, peerC_size]; done) | rfl) (h1 := by first | rfl | exact idC_one _ | exact peerC_one _ _ | exact rowOf_one _ _ (fun _ _ => rfl) | (simp only [List.size_toArray, List.length_cons, List.all_toArray', List.all_cons, List.all_nil, Value.oneCell', Bool.and_true, Bool.and_self]; done) | (simp [Value.oneCell']; done)) (h := ?_); clear hm; intro w1 hm; (try simp only [rowOf_set, k1, k2, k3, Value.cells, Act.eval, k7, k8, k9, kA, Option.getD_some] at hm)) | (refine wlSC (hm := hm) (hi := by first | exact sizeInt) (ho := by first | decide | (simp only [rowOf_size, idC_size, peerC_size]; omega) | (simp; done)) (h := ?_); clear hm; intro w1 hm; (try simp only [rowOf_set, k1, k2, k3, Value.cells, Act.eval, k7, k8, k9, kA, Option.getD_some] at hm)) | (refine wlA (hz := by first | exact zeroPeer | exact zeroID) (hm := hm) (h := ?_); clear hm; intro b1 w1 hm; (try simp only [rowOf_set, k1, k2, k3, Value.cells, Act.eval, k7, k8, k9, kA, Option.getD_some] at hm)) | (refine wl_box (by rfl) rfl (by first | exact peerV_cells _ _ | exact letV_cells _ | exact idV_cells _ | rfl) hm ?_; clear hm; intro b1 w1 hm) | (go_at_call 67; refine (odd_c _ _).mono ?_; rintro e w1 ⟨rfl, hx⟩; replace hm := hm.call hx; clear hx) | (with_reducible first | refine stBs ?_ | refine stMs ?_ | refine stAp ?_ | refine stCo ?_)); (try simp only [k4, k5, k6, Act.put, k1, k2, k3]))
        go_wp2_with (with_reducible first | refine stAl ?_ | refine stBo ?_ | refine stLo ?_ | refine stSo ?_ | refine stBu ?_ | refine stBs ?_ | refine stMs ?_ | refine stAp ?_ | refine stCo ?_); refine wp_quiet_mem (by kernel_rfl) (by kernel_rfl) hm ?_
        refine wqS (h := ?_)
        simp only [Act.put, k1, k2, k3]
        refine wqS (h := ?_)
        simp only [Act.put, k1, k2, k3]
        refine wqS (h := ?_)
        simp only [Act.put, k1, k2, k3]
        refine wq_run (v := .agg (peerC u u')) (by rfl) (fun w' hC => ld_oldRow rfl (by first | exact fun j v h => cell_old hC (C1.out j v h) | simpa using fun j v h => cell_old hC (C1.out j v h)) undPeer rfl (by rw [peerC_size]; exact sizePeer)) ?_; simp only [Act.put, k1, k2, k3]; simp only [← peerV_eq]
        refine wqS (h := ?_)
        simp only [Act.put, k1, k2, k3]
        refine wqS (h := ?_)
        simp only [Act.put, k1, k2, k3]
        refine wqS (h := ?_)
        simp only [Act.put, k1, k2, k3]
        refine wq_run (v := .agg (peerC v v')) (by rfl) (fun w' hC => ld_oldRow rfl (by first | exact fun j v h => cell_old hC (C2.out j v h) | simpa using fun j v h => cell_old hC (C2.out j v h)) undPeer rfl (by rw [peerC_size]; exact sizePeer)) ?_; simp only [Act.put, k1, k2, k3]; simp only [← peerV_eq]
        cases q with
        | true =>
          repeat ((first | refine wq_skip (by rfl) ?_ | (refine wqL (hu := by first | exact undPeer | exact undID) (hi := by (try simp only [rowOf_size, idC_size, peerC_size]); first | exact sizePeer | exact sizeID) (h := ?_); (try simp only [Act.put, k1, k2, k3]); (try simp only [← peerV_eq, ← idV_eq])) | refine wqLC (hu := by first | exact undInt) (h := ?_) | ((with_reducible show wpQuiet _ _ _ _ (⟨_, .call _, _, _, _, _⟩ :: _) _); refine wq_ask (by rfl) ?_; apply Exists.intro; refine ⟨?_, ?_⟩; (focus (intro w hC; go_simp; first | (go_at_call 67; exact (odd_c _ _).mono fun e w' h => ⟨h.1, hC.call h.2⟩)))) | refine wqS (h := ?_)); (try simp only [k4, k5, k6, Act.put, k1, k2, k3]))
          refine wpQuiet_nil ?_; clear hm; intro w5 hm
          go_wp2_with ((first | refine wpList_skip (by rfl) ?_ | (refine wlL (hm := hm) (hu := by first | exact undPeer | exact undID) (hi := by (try simp only [rowOf_size, idC_size, peerC_size]); first | exact sizePeer | exact sizeID) (h := ?_); (try simp only [Act.put, k1, k2, k3]); (try simp only [← peerV_eq, ← idV_eq])) | refine wlLC (hm := hm) (hu := by first | exact undInt) (h := ?_) | (refine wlS (hm := hm) (hv := (by first | rfl | exact idV_eq _ | exact labV_eq _ _ | exact rectV_eq _ _ _ _ | exact peerV_eq _ _ | exact letV_eq _)) (hi := by (try simp only [rowOf_size, idC_size, peerC_size]); first | exact sizePeer | exact sizeID) (hs := by first | (simp only [rowOf_size, idC_size, peerC_size]; done) | rfl) (h1 := by first | rfl | exact idC_one _ | exact peerC_one _ _ | exact rowOf_one _ _ (fun _ _ => rfl) | (simp only [List.size_toArray, List.length_cons, List.all_toArray', List.all_cons, List.all_nil, Value.oneCell', Bool.and_true, Bool.and_self]; done) | (simp [Value.oneCell']; done)) (h := ?_); clear hm; intro w1 hm; (try simp only [rowOf_set, k1, k2, k3, Value.cells, Act.eval, k7, k8, k9, kA, Option.getD_some] at hm)) | (refine wlSC (hm := hm) (hi := by first | exact sizeInt) (ho := by first | decide | (simp only [rowOf_size, idC_size, peerC_size]; omega) | (simp; done)) (h := ?_); clear hm; intro w1 hm; (try simp only [rowOf_set, k1, k2, k3, Value.cells, Act.eval, k7, k8, k9, kA, Option.getD_some] at hm)) | (refine wlA (hz := by first | exact zeroPeer | exact zeroID) (hm := hm) (h := ?_); clear hm; intro b1 w1 hm; (try simp only [rowOf_set, k1, k2, k3, Value.cells, Act.eval, k7, k8, k9, kA, Option.getD_some] at hm)) | (refine wl_box (by rfl) rfl (by first | exact peerV_cells _ _ | exact letV_cells _ | exact idV_cells _ | rfl) hm ?_; clear hm; intro b1 w1 hm) | (go_at_call 67; refine (odd_c _ _).mono ?_; rintro e w1 ⟨rfl, hx⟩; replace hm := hm.call hx; clear hx) | (with_reducible first | refine stBs ?_ | refine stMs ?_ | refine stAp ?_ | refine stCo ?_)); (try simp only [k4, k5, k6, Act.put, k1, k2, k3]))
          go_roundw
          case rel => exact ⟨i + 1, by omega, by go_num, fun j hj => by
            by_cases hji : j = i
            · rw [hji]; exact HQ.out
            · exact HL.out j (by omega), hm⟩
          case measure => (simp [intOf]; try omega)
        | false =>
          repeat ((first | refine wq_skip (by rfl) ?_ | (refine wqL (hu := by first | exact undPeer | exact undID) (hi := by (try simp only [rowOf_size, idC_size, peerC_size]); first | exact sizePeer | exact sizeID) (h := ?_); (try simp only [Act.put, k1, k2, k3]); (try simp only [← peerV_eq, ← idV_eq])) | refine wqLC (hu := by first | exact undInt) (h := ?_) | ((with_reducible show wpQuiet _ _ _ _ (⟨_, .call _, _, _, _, _⟩ :: _) _); refine wq_ask (by rfl) ?_; apply Exists.intro; refine ⟨?_, ?_⟩; (focus (intro w hC; go_simp; first | (go_at_call 67; exact (odd_c _ _).mono fun e w' h => ⟨h.1, hC.call h.2⟩)))) | refine wqS (h := ?_)); (try simp only [k4, k5, k6, Act.put, k1, k2, k3]))
          refine wpQuiet_nil ?_; clear hm; intro w5 hm
          go_wp2_with ((first | refine wpList_skip (by rfl) ?_ | (refine wlL (hm := hm) (hu := by first | exact undPeer | exact undID) (hi := by (try simp only [rowOf_size, idC_size, peerC_size]); first | exact sizePeer | exact sizeID) (h := ?_); (try simp only [Act.put, k1, k2, k3]); (try simp only [← peerV_eq, ← idV_eq])) | refine wlLC (hm := hm) (hu := by first | exact undInt) (h := ?_) | (refine wlS (hm := hm) (hv := (by first | rfl | exact idV_eq _ | exact labV_eq _ _ | exact rectV_eq _ _ _ _ | exact peerV_eq _ _ | exact letV_eq _)) (hi := by (try simp only [rowOf_size, idC_size, peerC_size]); first | exact sizePeer | exact sizeID) (hs := by first | (simp only [rowOf_size, idC_size, peerC_size]; done) | rfl) (h1 := by first | rfl | exact idC_one _ | exact peerC_one _ _ | exact rowOf_one _ _ (fun _ _ => rfl) | (simp only [List.size_toArray, List.length_cons, List.all_toArray', List.all_cons, List.all_nil, Value.oneCell', Bool.and_true, Bool.and_self]; done) | (simp [Value.oneCell']; done)) (h := ?_); clear hm; intro w1 hm; (try simp only [rowOf_set, k1, k2, k3, Value.cells, Act.eval, k7, k8, k9, kA, Option.getD_some] at hm)) | (refine wlSC (hm := hm) (hi := by first | exact sizeInt) (ho := by first | decide | (simp only [rowOf_size, idC_size, peerC_size]; omega) | (simp; done)) (h := ?_); clear hm; intro w1 hm; (try simp only [rowOf_set, k1, k2, k3, Value.cells, Act.eval, k7, k8, k9, kA, Option.getD_some] at hm)) | (refine wlA (hz := by first | exact zeroPeer | exact zeroID) (hm := hm) (h := ?_); clear hm; intro b1 w1 hm; (try simp only [rowOf_set, k1, k2, k3, Value.cells, Act.eval, k7, k8, k9, kA, Option.getD_some] at hm)) | (refine wl_box (by rfl) rfl (by first | exact peerV_cells _ _ | exact letV_cells _ | exact idV_cells _ | rfl) hm ?_; clear hm; intro b1 w1 hm) | (go_at_call 67; refine (odd_c _ _).mono ?_; rintro e w1 ⟨rfl, hx⟩; replace hm := hm.call hx; clear hx) | (with_reducible first | refine stBs ?_ | refine stMs ?_ | refine stAp ?_ | refine stCo ?_)); (try simp only [k4, k5, k6, Act.put, k1, k2, k3]))
          go_ret
          exact ⟨by rw [← HRes.out, samePeers_at hin HQ.out] <;> rfl, hm.ext⟩
      · obtain rfl : i = n := by omega
        have HL := hid hlow
        clear hi hin hlow
        go_wp2_with ((first | refine wpList_skip (by rfl) ?_ | (refine wlL (hm := hm) (hu := by first | exact undPeer | exact undID) (hi := by (try simp only [rowOf_size, idC_size, peerC_size]); first | exact sizePeer | exact sizeID) (h := ?_); (try simp only [Act.put, k1, k2, k3]); (try simp only [← peerV_eq, ← idV_eq])) | refine wlLC (hm := hm) (hu := by first | exact undInt) (h := ?_) | (refine wlS (hm := hm) (hv := (by first | rfl | exact idV_eq _ | exact labV_eq _ _ | exact rectV_eq _ _ _ _ | exact peerV_eq _ _ | exact letV_eq _)) (hi := by (try simp only [rowOf_size, idC_size, peerC_size]); first | exact sizePeer | exact sizeID) (hs := by first | (simp only [rowOf_size, idC_size, peerC_size]; done) | rfl) (h1 := by first | rfl | exact idC_one _ | exact peerC_one _ _ | exact rowOf_one _ _ (fun _ _ => rfl) | (simp only [List.size_toArray, List.length_cons, List.all_toArray', List.all_cons, List.all_nil, Value.oneCell', Bool.and_true, Bool.and_self]; done) | (simp [Value.oneCell']; done)) (h := ?_); clear hm; intro w1 hm; (try simp only [rowOf_set, k1, k2, k3, Value.cells, Act.eval, k7, k8, k9, kA, Option.getD_some] at hm)) | (refine wlSC (hm := hm) (hi := by first | exact sizeInt) (ho := by first | decide | (simp only [rowOf_size, idC_size, peerC_size]; omega) | (simp; done)) (h := ?_); clear hm; intro w1 hm; (try simp only [rowOf_set, k1, k2, k3, Value.cells, Act.eval, k7, k8, k9, kA, Option.getD_some] at hm)) | (refine wlA (hz := by first | exact zeroPeer | exact zeroID) (hm := hm) (h := ?_); clear hm; intro b1 w1 hm; (try simp only [rowOf_set, k1, k2, k3, Value.cells, Act.eval, k7, k8, k9, kA, Option.getD_some] at hm)) | (refine wl_box (by rfl) rfl (by first | exact peerV_cells _ _ | exact letV_cells _ | exact idV_cells _ | rfl) hm ?_; clear hm; intro b1 w1 hm) | (go_at_call 67; refine (odd_c _ _).mono ?_; rintro e w1 ⟨rfl, hx⟩; replace hm := hm.call hx; clear hx) | (with_reducible first | refine stBs ?_ | refine stMs ?_ | refine stAp ?_ | refine stCo ?_)); (try simp only [k4, k5, k6, Act.put, k1, k2, k3]))
        go_ret
        exact ⟨by rw [← HRes.out, samePeers_all HL.out] <;> rfl, hm.ext⟩
  · rw [samePeers_no hnm]
    have d0 : ((n : Int) != (m : Int)) = true := by rw [bne_iff_ne]; omega
    have d1 : ¬ (n : Int) = (m : Int) := by omega
    clear h h'
    go_enter Try.func80, Try.ntmps80
    have hm := Mem.refl w []
    go_wp2_with ((first | refine wpList_skip (by rfl) ?_ | (refine wlL (hm := hm) (hu := by first | exact undPeer | exact undID) (hi := by (try simp only [rowOf_size, idC_size, peerC_size]); first | exact sizePeer | exact sizeID) (h := ?_); (try simp only [Act.put, k1, k2, k3]); (try simp only [← peerV_eq, ← idV_eq])) | refine wlLC (hm := hm) (hu := by first | exact undInt) (h := ?_) | (refine wlS (hm := hm) (hv := (by first | rfl | exact idV_eq _ | exact labV_eq _ _ | exact rectV_eq _ _ _ _ | exact peerV_eq _ _ | exact letV_eq _)) (hi := by (try simp only [rowOf_size, idC_size, peerC_size]); first | exact sizePeer | exact sizeID) (hs := by first | (simp only [rowOf_size, idC_size, peerC_size]; done) | rfl) (h1 := by first | rfl | exact idC_one _ | exact peerC_one _ _ | exact rowOf_one _ _ (fun _ _ => rfl) | (simp only [List.size_toArray, List.length_cons, List.all_toArray', List.all_cons, List.all_nil, Value.oneCell', Bool.and_true, Bool.and_self]; done) | (simp [Value.oneCell']; done)) (h := ?_); clear hm; intro w1 hm; (try simp only [rowOf_set, k1, k2, k3, Value.cells, Act.eval, k7, k8, k9, kA, Option.getD_some] at hm)) | (refine wlSC (hm := hm) (hi := by first | exact sizeInt) (ho := by first | decide | (simp only [rowOf_size, idC_size, peerC_size]; omega) | (simp; done)) (h := ?_); clear hm; intro w1 hm; (try simp only [rowOf_set, k1, k2, k3, Value.cells, Act.eval, k7, k8, k9, kA, Option.getD_some] at hm)) | (refine wlA (hz := by first | exact zeroPeer | exact zeroID) (hm := hm) (h := ?_); clear hm; intro b1 w1 hm; (try simp only [rowOf_set, k1, k2, k3, Value.cells, Act.eval, k7, k8, k9, kA, Option.getD_some] at hm)) | (refine wl_box (by rfl) rfl (by first | exact peerV_cells _ _ | exact letV_cells _ | exact idV_cells _ | rfl) hm ?_; clear hm; intro b1 w1 hm) | (go_at_call 67; refine (odd_c _ _).mono ?_; rintro e w1 ⟨rfl, hx⟩; replace hm := hm.call hx; clear hx) | (with_reducible first | refine stBs ?_ | refine stMs ?_ | refine stAp ?_ | refine stCo ?_)); (try simp only [k4, k5, k6, Act.put, k1, k2, k3]))
    go_ret
    exact ⟨rfl, hm.ext⟩
end Go.Proofs.Ytijkmbebfodhdaa

/- (LetN)
  Letters: are two the same?
-/
namespace Go.Proofs.Ytijkmbebfodhdaa
open Go.RowKit
set_option linter.unusedSimpArgs false
set_option linter.unusedVariables false
set_option maxHeartbeats 2000000
set_option maxRecDepth 20000

theorem undBool : Try.prog.underlying 4 = some .bool := by kernel_rfl
theorem sizeBool : (Try.prog.info? 4).map (·.size) = some 1 := by kernel_rfl
attribute [local irreducible] wpQuiet wpList wpAnyH Calls
theorem ints_q {c : Option Addr} {n cap : Nat} {z : Nat → Int} {c' : Option Addr} {m cap' : Nat} {y : Nat → Int} {q : Bool} (hq : sameInts n z m y = q) (hn : n < 2 ^ 62) (w : World) (h : IntsV w c n z) (h' : IntsV w c' m y) :
    Calls Try.prog 79 #[.slice c n cap, .slice c' m cap'] w fun e w' => e = .returned (.bool q) ∧ Ext w w' := by
  rw [← hq]; exact ints_c c n cap z c' m cap' y hn w h h'
theorem peers_q {c : Option Addr} {n cap : Nat} {za : Nat → Int} {zp : Nat → Nat} {c' : Option Addr} {m cap' : Nat} {ya : Nat → Int} {yp : Nat → Nat} {q : Bool} (hq : samePeers n za zp m ya yp = q) (hn : n < 2 ^ 62) (w : World) (h : PeersV w c n za zp) (h' : PeersV w c' m ya yp) :
    Calls Try.prog 80 #[.slice c n cap, .slice c' m cap'] w fun e w' => e = .returned (.bool q) ∧ Ext w w' := by
  rw [← hq]; exact peers_c c n cap za zp c' m cap' ya yp hn w h h'
/-- What a letter's slices hold in a world. -/
structure Rows5 where
  (av : Nat → Int) (pa : Nat → Int) (pp : Nat → Nat)
def LetAt (w : World) (l : Let) (r : Rows5) : Prop := IntsV w l.ac l.an r.av ∧ PeersV w l.pc l.pn r.pa r.pp
def sameLet (l : Let) (r : Rows5) (m : Let) (s : Rows5) : Bool :=
  l.kind == m.kind && (samePeer l.fa l.fi m.fa m.fi && ((l.req : Int) == (m.req : Int) && (eqId l.id m.id && (sameInts l.an r.av m.an s.av && ((l.done == m.done) && (samePeer l.pa l.pi m.pa m.pi && samePeers l.pn r.pa r.pp m.pn s.pa s.pp))))))
theorem same_c (l m : Let) (r s : Rows5) (hn : l.an < 2 ^ 62) (hp : l.pn < 2 ^ 62) (w : World) (hl : LetAt w l r) (hm' : LetAt w m s) :
    Calls Try.prog 43 #[letV l, letV m] w fun e w' => e = .returned (.bool (sameLet l r m s)) ∧ Ext w w' := by
  have H1 := hid hl.1
  have H2 := hid hm'.1
  have H3 := hid hl.2
  have H4 := hid hm'.2
  clear hl hm'
  unfold sameLet
  obtain ⟨q1, h1⟩ : ∃ q, (l.kind == m.kind) = q := ⟨_, rfl⟩
  obtain ⟨q2, h2⟩ : ∃ q, samePeer l.fa l.fi m.fa m.fi = q := ⟨_, rfl⟩
  obtain ⟨q3, h3⟩ : ∃ q, ((l.req : Int) == (m.req : Int)) = q := ⟨_, rfl⟩
  obtain ⟨q4, h4⟩ : ∃ q, eqId l.id m.id = q := ⟨_, rfl⟩
  obtain ⟨q5, h5⟩ : ∃ q, sameInts l.an r.av m.an s.av = q := ⟨_, rfl⟩
  obtain ⟨q6, h6⟩ : ∃ q, (l.done == m.done) = q := ⟨_, rfl⟩
  obtain ⟨q7, h7⟩ : ∃ q, samePeer l.pa l.pi m.pa m.pi = q := ⟨_, rfl⟩
  obtain ⟨q8, h8⟩ : ∃ q, samePeers l.pn r.pa r.pp m.pn s.pa s.pp = q := ⟨_, rfl⟩
  rw [h1, h2, h3, h4, h5, h6, h7, h8]
  rcases q1 with _ | _
  · go_enter Try.func43, Try.ntmps43
    have hm := Mem.refl w []
    go_wp2_with (with_reducible first | refine stAl ?_ | refine stBo ?_ | refine stLo ?_ | refine stSo ?_ | refine stBu ?_ | refine stBs ?_ | refine stMs ?_ | refine stAp ?_ | refine stCo ?_); refine Stop.go (wl_box (by rfl) rfl (letV_cells l) hm ?_); clear hm; intro b1 w1 hm; simp only [Act.put, k1, k2, k3]; (try simp only [rowOf_set, k1, k2, k3, Value.cells, Act.eval, k7, k8, k9, kA, Option.getD_some] at hm)
    go_wp2_with (with_reducible first | refine stAl ?_ | refine stBo ?_ | refine stLo ?_ | refine stSo ?_ | refine stBu ?_ | refine stBs ?_ | refine stMs ?_ | refine stAp ?_ | refine stCo ?_); refine Stop.go (wl_box (by rfl) rfl (letV_cells m) hm ?_); clear hm; intro b2 w2 hm; simp only [Act.put, k1, k2, k3]; (try simp only [rowOf_set, k1, k2, k3, Value.cells, Act.eval, k7, k8, k9, kA, Option.getD_some] at hm)
    go_wp2_with ((first | refine wpList_skip (by rfl) ?_ | (refine wlL (hm := hm) (hu := by first | exact undPeer | exact undID) (hi := by (try simp only [rowOf_size, idC_size, peerC_size, letC_size]); first | exact sizePeer | exact sizeID) (h := ?_); (try simp only [Act.put, k1, k2, k3]); (try simp only [← peerV_eq, ← idV_eq])) | (refine wlM (hm := hm) (hv := by first | exact let_id _ | exact let_from _ | exact let_peer _) (hu := by first | exact undPeer | exact undID) (hi := by (try simp only [rowOf_size, idC_size, peerC_size, letC_size]); first | exact sizePeer | exact sizeID) (h := ?_); (try simp only [Act.put, k1, k2, k3]); (try simp only [← peerV_eq, ← idV_eq])) | refine wlLC (hm := hm) (hv := by first | exact let0 _ | exact let1 _ | exact let22 _ | exact let43 _ | exact let44 _ | exact let45 _ | exact let66 _ | rfl) (hu := by first | exact undInt | exact undU64 | exact undBool | exact undIntS | exact undPeerS) (h := ?_) | (refine wlS (hm := hm) (hv := (by first | rfl | exact idV_eq _ | exact labV_eq _ _ | exact rectV_eq _ _ _ _ | exact peerV_eq _ _ | exact letV_eq _)) (hi := by (try simp only [rowOf_size, idC_size, peerC_size, letC_size]); first | exact sizePeer | exact sizeID) (hs := by first | (simp only [rowOf_size, idC_size, peerC_size, letC_size]; done) | rfl) (h1 := by first | rfl | exact idC_one _ | exact peerC_one _ _ | exact rowOf_one _ _ (fun _ _ => rfl) | (simp only [List.size_toArray, List.length_cons, List.all_toArray', List.all_cons, List.all_nil, Value.oneCell', Bool.and_true, Bool.and_self]; done) | (simp [Value.oneCell']; done)) (h := ?_); clear hm; intro w1 hm; (try simp only [rowOf_set, k1, k2, k3, Value.cells, Act.eval, k7, k8, k9, kA, Option.getD_some] at hm)) | (refine wlSC (hm := hm) (hi := by first | exact sizeInt | exact sizeU64 | exact sizeBool | exact sizeIntS | exact sizePeerS) (ho := by first | decide | (simp only [rowOf_size, idC_size, peerC_size, letC_size]; omega) | (simp; done)) (h := ?_); clear hm; intro w1 hm; (try simp only [rowOf_set, k1, k2, k3, Value.cells, Act.eval, k7, k8, k9, kA, Option.getD_some] at hm)) | (refine wlA (hz := by first | exact zeroPeer | exact zeroID) (hm := hm) (h := ?_); clear hm; intro b1 w1 hm; (try simp only [rowOf_set, k1, k2, k3, Value.cells, Act.eval, k7, k8, k9, kA, Option.getD_some] at hm)) | (refine wl_box (by rfl) rfl (by first | exact peerV_cells _ _ | exact letV_cells _ | exact idV_cells _ | rfl) hm ?_; clear hm; intro b1 w1 hm) | (go_at_call 79; refine (ints_q h5 hn _ (H1.out.old hm) (H2.out.old hm)).mono ?_; rintro e w1 ⟨rfl, hx⟩; replace hm := hm.call hx; clear hx) | (go_at_call 80; refine (peers_q h8 hp _ (H3.out.old hm) (H4.out.old hm)).mono ?_; rintro e w1 ⟨rfl, hx⟩; replace hm := hm.call hx; clear hx) | (with_reducible first | refine stBs ?_ | refine stMs ?_ | refine stAp ?_ | refine stCo ?_)); (try simp only [k4, k5, k6, Act.put, k1, k2, k3]))
    go_ret
    exact ⟨rfl, hm.ext⟩
  rcases q2 with _ | _
  · go_enter Try.func43, Try.ntmps43
    have hm := Mem.refl w []
    go_wp2_with (with_reducible first | refine stAl ?_ | refine stBo ?_ | refine stLo ?_ | refine stSo ?_ | refine stBu ?_ | refine stBs ?_ | refine stMs ?_ | refine stAp ?_ | refine stCo ?_); refine Stop.go (wl_box (by rfl) rfl (letV_cells l) hm ?_); clear hm; intro b1 w1 hm; simp only [Act.put, k1, k2, k3]; (try simp only [rowOf_set, k1, k2, k3, Value.cells, Act.eval, k7, k8, k9, kA, Option.getD_some] at hm)
    go_wp2_with (with_reducible first | refine stAl ?_ | refine stBo ?_ | refine stLo ?_ | refine stSo ?_ | refine stBu ?_ | refine stBs ?_ | refine stMs ?_ | refine stAp ?_ | refine stCo ?_); refine Stop.go (wl_box (by rfl) rfl (letV_cells m) hm ?_); clear hm; intro b2 w2 hm; simp only [Act.put, k1, k2, k3]; (try simp only [rowOf_set, k1, k2, k3, Value.cells, Act.eval, k7, k8, k9, kA, Option.getD_some] at hm)
    go_wp2_with ((first | refine wpList_skip (by rfl) ?_ | (refine wlL (hm := hm) (hu := by first | exact undPeer | exact undID) (hi := by (try simp only [rowOf_size, idC_size, peerC_size, letC_size]); first | exact sizePeer | exact sizeID) (h := ?_); (try simp only [Act.put, k1, k2, k3]); (try simp only [← peerV_eq, ← idV_eq])) | (refine wlM (hm := hm) (hv := by first | exact let_id _ | exact let_from _ | exact let_peer _) (hu := by first | exact undPeer | exact undID) (hi := by (try simp only [rowOf_size, idC_size, peerC_size, letC_size]); first | exact sizePeer | exact sizeID) (h := ?_); (try simp only [Act.put, k1, k2, k3]); (try simp only [← peerV_eq, ← idV_eq])) | refine wlLC (hm := hm) (hv := by first | exact let0 _ | exact let1 _ | exact let22 _ | exact let43 _ | exact let44 _ | exact let45 _ | exact let66 _ | rfl) (hu := by first | exact undInt | exact undU64 | exact undBool | exact undIntS | exact undPeerS) (h := ?_) | (refine wlS (hm := hm) (hv := (by first | rfl | exact idV_eq _ | exact labV_eq _ _ | exact rectV_eq _ _ _ _ | exact peerV_eq _ _ | exact letV_eq _)) (hi := by (try simp only [rowOf_size, idC_size, peerC_size, letC_size]); first | exact sizePeer | exact sizeID) (hs := by first | (simp only [rowOf_size, idC_size, peerC_size, letC_size]; done) | rfl) (h1 := by first | rfl | exact idC_one _ | exact peerC_one _ _ | exact rowOf_one _ _ (fun _ _ => rfl) | (simp only [List.size_toArray, List.length_cons, List.all_toArray', List.all_cons, List.all_nil, Value.oneCell', Bool.and_true, Bool.and_self]; done) | (simp [Value.oneCell']; done)) (h := ?_); clear hm; intro w1 hm; (try simp only [rowOf_set, k1, k2, k3, Value.cells, Act.eval, k7, k8, k9, kA, Option.getD_some] at hm)) | (refine wlSC (hm := hm) (hi := by first | exact sizeInt | exact sizeU64 | exact sizeBool | exact sizeIntS | exact sizePeerS) (ho := by first | decide | (simp only [rowOf_size, idC_size, peerC_size, letC_size]; omega) | (simp; done)) (h := ?_); clear hm; intro w1 hm; (try simp only [rowOf_set, k1, k2, k3, Value.cells, Act.eval, k7, k8, k9, kA, Option.getD_some] at hm)) | (refine wlA (hz := by first | exact zeroPeer | exact zeroID) (hm := hm) (h := ?_); clear hm; intro b1 w1 hm; (try simp only [rowOf_set, k1, k2, k3, Value.cells, Act.eval, k7, k8, k9, kA, Option.getD_some] at hm)) | (refine wl_box (by rfl) rfl (by first | exact peerV_cells _ _ | exact letV_cells _ | exact idV_cells _ | rfl) hm ?_; clear hm; intro b1 w1 hm) | (go_at_call 79; refine (ints_q h5 hn _ (H1.out.old hm) (H2.out.old hm)).mono ?_; rintro e w1 ⟨rfl, hx⟩; replace hm := hm.call hx; clear hx) | (go_at_call 80; refine (peers_q h8 hp _ (H3.out.old hm) (H4.out.old hm)).mono ?_; rintro e w1 ⟨rfl, hx⟩; replace hm := hm.call hx; clear hx) | (with_reducible first | refine stBs ?_ | refine stMs ?_ | refine stAp ?_ | refine stCo ?_)); (try simp only [k4, k5, k6, Act.put, k1, k2, k3]))
    go_ret
    exact ⟨rfl, hm.ext⟩
  rcases q3 with _ | _
  · go_enter Try.func43, Try.ntmps43
    have hm := Mem.refl w []
    go_wp2_with (with_reducible first | refine stAl ?_ | refine stBo ?_ | refine stLo ?_ | refine stSo ?_ | refine stBu ?_ | refine stBs ?_ | refine stMs ?_ | refine stAp ?_ | refine stCo ?_); refine Stop.go (wl_box (by rfl) rfl (letV_cells l) hm ?_); clear hm; intro b1 w1 hm; simp only [Act.put, k1, k2, k3]; (try simp only [rowOf_set, k1, k2, k3, Value.cells, Act.eval, k7, k8, k9, kA, Option.getD_some] at hm)
    go_wp2_with (with_reducible first | refine stAl ?_ | refine stBo ?_ | refine stLo ?_ | refine stSo ?_ | refine stBu ?_ | refine stBs ?_ | refine stMs ?_ | refine stAp ?_ | refine stCo ?_); refine Stop.go (wl_box (by rfl) rfl (letV_cells m) hm ?_); clear hm; intro b2 w2 hm; simp only [Act.put, k1, k2, k3]; (try simp only [rowOf_set, k1, k2, k3, Value.cells, Act.eval, k7, k8, k9, kA, Option.getD_some] at hm)
    go_wp2_with ((first | refine wpList_skip (by rfl) ?_ | (refine wlL (hm := hm) (hu := by first | exact undPeer | exact undID) (hi := by (try simp only [rowOf_size, idC_size, peerC_size, letC_size]); first | exact sizePeer | exact sizeID) (h := ?_); (try simp only [Act.put, k1, k2, k3]); (try simp only [← peerV_eq, ← idV_eq])) | (refine wlM (hm := hm) (hv := by first | exact let_id _ | exact let_from _ | exact let_peer _) (hu := by first | exact undPeer | exact undID) (hi := by (try simp only [rowOf_size, idC_size, peerC_size, letC_size]); first | exact sizePeer | exact sizeID) (h := ?_); (try simp only [Act.put, k1, k2, k3]); (try simp only [← peerV_eq, ← idV_eq])) | refine wlLC (hm := hm) (hv := by first | exact let0 _ | exact let1 _ | exact let22 _ | exact let43 _ | exact let44 _ | exact let45 _ | exact let66 _ | rfl) (hu := by first | exact undInt | exact undU64 | exact undBool | exact undIntS | exact undPeerS) (h := ?_) | (refine wlS (hm := hm) (hv := (by first | rfl | exact idV_eq _ | exact labV_eq _ _ | exact rectV_eq _ _ _ _ | exact peerV_eq _ _ | exact letV_eq _)) (hi := by (try simp only [rowOf_size, idC_size, peerC_size, letC_size]); first | exact sizePeer | exact sizeID) (hs := by first | (simp only [rowOf_size, idC_size, peerC_size, letC_size]; done) | rfl) (h1 := by first | rfl | exact idC_one _ | exact peerC_one _ _ | exact rowOf_one _ _ (fun _ _ => rfl) | (simp only [List.size_toArray, List.length_cons, List.all_toArray', List.all_cons, List.all_nil, Value.oneCell', Bool.and_true, Bool.and_self]; done) | (simp [Value.oneCell']; done)) (h := ?_); clear hm; intro w1 hm; (try simp only [rowOf_set, k1, k2, k3, Value.cells, Act.eval, k7, k8, k9, kA, Option.getD_some] at hm)) | (refine wlSC (hm := hm) (hi := by first | exact sizeInt | exact sizeU64 | exact sizeBool | exact sizeIntS | exact sizePeerS) (ho := by first | decide | (simp only [rowOf_size, idC_size, peerC_size, letC_size]; omega) | (simp; done)) (h := ?_); clear hm; intro w1 hm; (try simp only [rowOf_set, k1, k2, k3, Value.cells, Act.eval, k7, k8, k9, kA, Option.getD_some] at hm)) | (refine wlA (hz := by first | exact zeroPeer | exact zeroID) (hm := hm) (h := ?_); clear hm; intro b1 w1 hm; (try simp only [rowOf_set, k1, k2, k3, Value.cells, Act.eval, k7, k8, k9, kA, Option.getD_some] at hm)) | (refine wl_box (by rfl) rfl (by first | exact peerV_cells _ _ | exact letV_cells _ | exact idV_cells _ | rfl) hm ?_; clear hm; intro b1 w1 hm) | (go_at_call 79; refine (ints_q h5 hn _ (H1.out.old hm) (H2.out.old hm)).mono ?_; rintro e w1 ⟨rfl, hx⟩; replace hm := hm.call hx; clear hx) | (go_at_call 80; refine (peers_q h8 hp _ (H3.out.old hm) (H4.out.old hm)).mono ?_; rintro e w1 ⟨rfl, hx⟩; replace hm := hm.call hx; clear hx) | (with_reducible first | refine stBs ?_ | refine stMs ?_ | refine stAp ?_ | refine stCo ?_)); (try simp only [k4, k5, k6, Act.put, k1, k2, k3]))
    go_ret
    exact ⟨rfl, hm.ext⟩
  rcases q4 with _ | _
  · go_enter Try.func43, Try.ntmps43
    have hm := Mem.refl w []
    go_wp2_with (with_reducible first | refine stAl ?_ | refine stBo ?_ | refine stLo ?_ | refine stSo ?_ | refine stBu ?_ | refine stBs ?_ | refine stMs ?_ | refine stAp ?_ | refine stCo ?_); refine Stop.go (wl_box (by rfl) rfl (letV_cells l) hm ?_); clear hm; intro b1 w1 hm; simp only [Act.put, k1, k2, k3]; (try simp only [rowOf_set, k1, k2, k3, Value.cells, Act.eval, k7, k8, k9, kA, Option.getD_some] at hm)
    go_wp2_with (with_reducible first | refine stAl ?_ | refine stBo ?_ | refine stLo ?_ | refine stSo ?_ | refine stBu ?_ | refine stBs ?_ | refine stMs ?_ | refine stAp ?_ | refine stCo ?_); refine Stop.go (wl_box (by rfl) rfl (letV_cells m) hm ?_); clear hm; intro b2 w2 hm; simp only [Act.put, k1, k2, k3]; (try simp only [rowOf_set, k1, k2, k3, Value.cells, Act.eval, k7, k8, k9, kA, Option.getD_some] at hm)
    go_wp2_with ((first | refine wpList_skip (by rfl) ?_ | (refine wlL (hm := hm) (hu := by first | exact undPeer | exact undID) (hi := by (try simp only [rowOf_size, idC_size, peerC_size, letC_size]); first | exact sizePeer | exact sizeID) (h := ?_); (try simp only [Act.put, k1, k2, k3]); (try simp only [← peerV_eq, ← idV_eq])) | (refine wlM (hm := hm) (hv := by first | exact let_id _ | exact let_from _ | exact let_peer _) (hu := by first | exact undPeer | exact undID) (hi := by (try simp only [rowOf_size, idC_size, peerC_size, letC_size]); first | exact sizePeer | exact sizeID) (h := ?_); (try simp only [Act.put, k1, k2, k3]); (try simp only [← peerV_eq, ← idV_eq])) | refine wlLC (hm := hm) (hv := by first | exact let0 _ | exact let1 _ | exact let22 _ | exact let43 _ | exact let44 _ | exact let45 _ | exact let66 _ | rfl) (hu := by first | exact undInt | exact undU64 | exact undBool | exact undIntS | exact undPeerS) (h := ?_) | (refine wlS (hm := hm) (hv := (by first | rfl | exact idV_eq _ | exact labV_eq _ _ | exact rectV_eq _ _ _ _ | exact peerV_eq _ _ | exact letV_eq _)) (hi := by (try simp only [rowOf_size, idC_size, peerC_size, letC_size]); first | exact sizePeer | exact sizeID) (hs := by first | (simp only [rowOf_size, idC_size, peerC_size, letC_size]; done) | rfl) (h1 := by first | rfl | exact idC_one _ | exact peerC_one _ _ | exact rowOf_one _ _ (fun _ _ => rfl) | (simp only [List.size_toArray, List.length_cons, List.all_toArray', List.all_cons, List.all_nil, Value.oneCell', Bool.and_true, Bool.and_self]; done) | (simp [Value.oneCell']; done)) (h := ?_); clear hm; intro w1 hm; (try simp only [rowOf_set, k1, k2, k3, Value.cells, Act.eval, k7, k8, k9, kA, Option.getD_some] at hm)) | (refine wlSC (hm := hm) (hi := by first | exact sizeInt | exact sizeU64 | exact sizeBool | exact sizeIntS | exact sizePeerS) (ho := by first | decide | (simp only [rowOf_size, idC_size, peerC_size, letC_size]; omega) | (simp; done)) (h := ?_); clear hm; intro w1 hm; (try simp only [rowOf_set, k1, k2, k3, Value.cells, Act.eval, k7, k8, k9, kA, Option.getD_some] at hm)) | (refine wlA (hz := by first | exact zeroPeer | exact zeroID) (hm := hm) (h := ?_); clear hm; intro b1 w1 hm; (try simp only [rowOf_set, k1, k2, k3, Value.cells, Act.eval, k7, k8, k9, kA, Option.getD_some] at hm)) | (refine wl_box (by rfl) rfl (by first | exact peerV_cells _ _ | exact letV_cells _ | exact idV_cells _ | rfl) hm ?_; clear hm; intro b1 w1 hm) | (go_at_call 79; refine (ints_q h5 hn _ (H1.out.old hm) (H2.out.old hm)).mono ?_; rintro e w1 ⟨rfl, hx⟩; replace hm := hm.call hx; clear hx) | (go_at_call 80; refine (peers_q h8 hp _ (H3.out.old hm) (H4.out.old hm)).mono ?_; rintro e w1 ⟨rfl, hx⟩; replace hm := hm.call hx; clear hx) | (with_reducible first | refine stBs ?_ | refine stMs ?_ | refine stAp ?_ | refine stCo ?_)); (try simp only [k4, k5, k6, Act.put, k1, k2, k3]))
    go_ret
    exact ⟨rfl, hm.ext⟩
  rcases q5 with _ | _
  · go_enter Try.func43, Try.ntmps43
    have hm := Mem.refl w []
    go_wp2_with (with_reducible first | refine stAl ?_ | refine stBo ?_ | refine stLo ?_ | refine stSo ?_ | refine stBu ?_ | refine stBs ?_ | refine stMs ?_ | refine stAp ?_ | refine stCo ?_); refine Stop.go (wl_box (by rfl) rfl (letV_cells l) hm ?_); clear hm; intro b1 w1 hm; simp only [Act.put, k1, k2, k3]; (try simp only [rowOf_set, k1, k2, k3, Value.cells, Act.eval, k7, k8, k9, kA, Option.getD_some] at hm)
    go_wp2_with (with_reducible first | refine stAl ?_ | refine stBo ?_ | refine stLo ?_ | refine stSo ?_ | refine stBu ?_ | refine stBs ?_ | refine stMs ?_ | refine stAp ?_ | refine stCo ?_); refine Stop.go (wl_box (by rfl) rfl (letV_cells m) hm ?_); clear hm; intro b2 w2 hm; simp only [Act.put, k1, k2, k3]; (try simp only [rowOf_set, k1, k2, k3, Value.cells, Act.eval, k7, k8, k9, kA, Option.getD_some] at hm)
    go_wp2_with ((first | refine wpList_skip (by rfl) ?_ | (refine wlL (hm := hm) (hu := by first | exact undPeer | exact undID) (hi := by (try simp only [rowOf_size, idC_size, peerC_size, letC_size]); first | exact sizePeer | exact sizeID) (h := ?_); (try simp only [Act.put, k1, k2, k3]); (try simp only [← peerV_eq, ← idV_eq])) | (refine wlM (hm := hm) (hv := by first | exact let_id _ | exact let_from _ | exact let_peer _) (hu := by first | exact undPeer | exact undID) (hi := by (try simp only [rowOf_size, idC_size, peerC_size, letC_size]); first | exact sizePeer | exact sizeID) (h := ?_); (try simp only [Act.put, k1, k2, k3]); (try simp only [← peerV_eq, ← idV_eq])) | refine wlLC (hm := hm) (hv := by first | exact let0 _ | exact let1 _ | exact let22 _ | exact let43 _ | exact let44 _ | exact let45 _ | exact let66 _ | rfl) (hu := by first | exact undInt | exact undU64 | exact undBool | exact undIntS | exact undPeerS) (h := ?_) | (refine wlS (hm := hm) (hv := (by first | rfl | exact idV_eq _ | exact labV_eq _ _ | exact rectV_eq _ _ _ _ | exact peerV_eq _ _ | exact letV_eq _)) (hi := by (try simp only [rowOf_size, idC_size, peerC_size, letC_size]); first | exact sizePeer | exact sizeID) (hs := by first | (simp only [rowOf_size, idC_size, peerC_size, letC_size]; done) | rfl) (h1 := by first | rfl | exact idC_one _ | exact peerC_one _ _ | exact rowOf_one _ _ (fun _ _ => rfl) | (simp only [List.size_toArray, List.length_cons, List.all_toArray', List.all_cons, List.all_nil, Value.oneCell', Bool.and_true, Bool.and_self]; done) | (simp [Value.oneCell']; done)) (h := ?_); clear hm; intro w1 hm; (try simp only [rowOf_set, k1, k2, k3, Value.cells, Act.eval, k7, k8, k9, kA, Option.getD_some] at hm)) | (refine wlSC (hm := hm) (hi := by first | exact sizeInt | exact sizeU64 | exact sizeBool | exact sizeIntS | exact sizePeerS) (ho := by first | decide | (simp only [rowOf_size, idC_size, peerC_size, letC_size]; omega) | (simp; done)) (h := ?_); clear hm; intro w1 hm; (try simp only [rowOf_set, k1, k2, k3, Value.cells, Act.eval, k7, k8, k9, kA, Option.getD_some] at hm)) | (refine wlA (hz := by first | exact zeroPeer | exact zeroID) (hm := hm) (h := ?_); clear hm; intro b1 w1 hm; (try simp only [rowOf_set, k1, k2, k3, Value.cells, Act.eval, k7, k8, k9, kA, Option.getD_some] at hm)) | (refine wl_box (by rfl) rfl (by first | exact peerV_cells _ _ | exact letV_cells _ | exact idV_cells _ | rfl) hm ?_; clear hm; intro b1 w1 hm) | (go_at_call 79; refine (ints_q h5 hn _ (H1.out.old hm) (H2.out.old hm)).mono ?_; rintro e w1 ⟨rfl, hx⟩; replace hm := hm.call hx; clear hx) | (go_at_call 80; refine (peers_q h8 hp _ (H3.out.old hm) (H4.out.old hm)).mono ?_; rintro e w1 ⟨rfl, hx⟩; replace hm := hm.call hx; clear hx) | (with_reducible first | refine stBs ?_ | refine stMs ?_ | refine stAp ?_ | refine stCo ?_)); (try simp only [k4, k5, k6, Act.put, k1, k2, k3]))
    go_ret
    exact ⟨rfl, hm.ext⟩
  rcases q6 with _ | _
  · go_enter Try.func43, Try.ntmps43
    have hm := Mem.refl w []
    go_wp2_with (with_reducible first | refine stAl ?_ | refine stBo ?_ | refine stLo ?_ | refine stSo ?_ | refine stBu ?_ | refine stBs ?_ | refine stMs ?_ | refine stAp ?_ | refine stCo ?_); refine Stop.go (wl_box (by rfl) rfl (letV_cells l) hm ?_); clear hm; intro b1 w1 hm; simp only [Act.put, k1, k2, k3]; (try simp only [rowOf_set, k1, k2, k3, Value.cells, Act.eval, k7, k8, k9, kA, Option.getD_some] at hm)
    go_wp2_with (with_reducible first | refine stAl ?_ | refine stBo ?_ | refine stLo ?_ | refine stSo ?_ | refine stBu ?_ | refine stBs ?_ | refine stMs ?_ | refine stAp ?_ | refine stCo ?_); refine Stop.go (wl_box (by rfl) rfl (letV_cells m) hm ?_); clear hm; intro b2 w2 hm; simp only [Act.put, k1, k2, k3]; (try simp only [rowOf_set, k1, k2, k3, Value.cells, Act.eval, k7, k8, k9, kA, Option.getD_some] at hm)
    go_wp2_with ((first | refine wpList_skip (by rfl) ?_ | (refine wlL (hm := hm) (hu := by first | exact undPeer | exact undID) (hi := by (try simp only [rowOf_size, idC_size, peerC_size, letC_size]); first | exact sizePeer | exact sizeID) (h := ?_); (try simp only [Act.put, k1, k2, k3]); (try simp only [← peerV_eq, ← idV_eq])) | (refine wlM (hm := hm) (hv := by first | exact let_id _ | exact let_from _ | exact let_peer _) (hu := by first | exact undPeer | exact undID) (hi := by (try simp only [rowOf_size, idC_size, peerC_size, letC_size]); first | exact sizePeer | exact sizeID) (h := ?_); (try simp only [Act.put, k1, k2, k3]); (try simp only [← peerV_eq, ← idV_eq])) | refine wlLC (hm := hm) (hv := by first | exact let0 _ | exact let1 _ | exact let22 _ | exact let43 _ | exact let44 _ | exact let45 _ | exact let66 _ | rfl) (hu := by first | exact undInt | exact undU64 | exact undBool | exact undIntS | exact undPeerS) (h := ?_) | (refine wlS (hm := hm) (hv := (by first | rfl | exact idV_eq _ | exact labV_eq _ _ | exact rectV_eq _ _ _ _ | exact peerV_eq _ _ | exact letV_eq _)) (hi := by (try simp only [rowOf_size, idC_size, peerC_size, letC_size]); first | exact sizePeer | exact sizeID) (hs := by first | (simp only [rowOf_size, idC_size, peerC_size, letC_size]; done) | rfl) (h1 := by first | rfl | exact idC_one _ | exact peerC_one _ _ | exact rowOf_one _ _ (fun _ _ => rfl) | (simp only [List.size_toArray, List.length_cons, List.all_toArray', List.all_cons, List.all_nil, Value.oneCell', Bool.and_true, Bool.and_self]; done) | (simp [Value.oneCell']; done)) (h := ?_); clear hm; intro w1 hm; (try simp only [rowOf_set, k1, k2, k3, Value.cells, Act.eval, k7, k8, k9, kA, Option.getD_some] at hm)) | (refine wlSC (hm := hm) (hi := by first | exact sizeInt | exact sizeU64 | exact sizeBool | exact sizeIntS | exact sizePeerS) (ho := by first | decide | (simp only [rowOf_size, idC_size, peerC_size, letC_size]; omega) | (simp; done)) (h := ?_); clear hm; intro w1 hm; (try simp only [rowOf_set, k1, k2, k3, Value.cells, Act.eval, k7, k8, k9, kA, Option.getD_some] at hm)) | (refine wlA (hz := by first | exact zeroPeer | exact zeroID) (hm := hm) (h := ?_); clear hm; intro b1 w1 hm; (try simp only [rowOf_set, k1, k2, k3, Value.cells, Act.eval, k7, k8, k9, kA, Option.getD_some] at hm)) | (refine wl_box (by rfl) rfl (by first | exact peerV_cells _ _ | exact letV_cells _ | exact idV_cells _ | rfl) hm ?_; clear hm; intro b1 w1 hm) | (go_at_call 79; refine (ints_q h5 hn _ (H1.out.old hm) (H2.out.old hm)).mono ?_; rintro e w1 ⟨rfl, hx⟩; replace hm := hm.call hx; clear hx) | (go_at_call 80; refine (peers_q h8 hp _ (H3.out.old hm) (H4.out.old hm)).mono ?_; rintro e w1 ⟨rfl, hx⟩; replace hm := hm.call hx; clear hx) | (with_reducible first | refine stBs ?_ | refine stMs ?_ | refine stAp ?_ | refine stCo ?_)); (try simp only [k4, k5, k6, Act.put, k1, k2, k3]))
    go_ret
    exact ⟨rfl, hm.ext⟩
  rcases q7 with _ | _
  · go_enter Try.func43, Try.ntmps43
    have hm := Mem.refl w []
    go_wp2_with (with_reducible first | refine stAl ?_ | refine stBo ?_ | refine stLo ?_ | refine stSo ?_ | refine stBu ?_ | refine stBs ?_ | refine stMs ?_ | refine stAp ?_ | refine stCo ?_); refine Stop.go (wl_box (by rfl) rfl (letV_cells l) hm ?_); clear hm; intro b1 w1 hm; simp only [Act.put, k1, k2, k3]; (try simp only [rowOf_set, k1, k2, k3, Value.cells, Act.eval, k7, k8, k9, kA, Option.getD_some] at hm)
    go_wp2_with (with_reducible first | refine stAl ?_ | refine stBo ?_ | refine stLo ?_ | refine stSo ?_ | refine stBu ?_ | refine stBs ?_ | refine stMs ?_ | refine stAp ?_ | refine stCo ?_); refine Stop.go (wl_box (by rfl) rfl (letV_cells m) hm ?_); clear hm; intro b2 w2 hm; simp only [Act.put, k1, k2, k3]; (try simp only [rowOf_set, k1, k2, k3, Value.cells, Act.eval, k7, k8, k9, kA, Option.getD_some] at hm)
    go_wp2_with ((first | refine wpList_skip (by rfl) ?_ | (refine wlL (hm := hm) (hu := by first | exact undPeer | exact undID) (hi := by (try simp only [rowOf_size, idC_size, peerC_size, letC_size]); first | exact sizePeer | exact sizeID) (h := ?_); (try simp only [Act.put, k1, k2, k3]); (try simp only [← peerV_eq, ← idV_eq])) | (refine wlM (hm := hm) (hv := by first | exact let_id _ | exact let_from _ | exact let_peer _) (hu := by first | exact undPeer | exact undID) (hi := by (try simp only [rowOf_size, idC_size, peerC_size, letC_size]); first | exact sizePeer | exact sizeID) (h := ?_); (try simp only [Act.put, k1, k2, k3]); (try simp only [← peerV_eq, ← idV_eq])) | refine wlLC (hm := hm) (hv := by first | exact let0 _ | exact let1 _ | exact let22 _ | exact let43 _ | exact let44 _ | exact let45 _ | exact let66 _ | rfl) (hu := by first | exact undInt | exact undU64 | exact undBool | exact undIntS | exact undPeerS) (h := ?_) | (refine wlS (hm := hm) (hv := (by first | rfl | exact idV_eq _ | exact labV_eq _ _ | exact rectV_eq _ _ _ _ | exact peerV_eq _ _ | exact letV_eq _)) (hi := by (try simp only [rowOf_size, idC_size, peerC_size, letC_size]); first | exact sizePeer | exact sizeID) (hs := by first | (simp only [rowOf_size, idC_size, peerC_size, letC_size]; done) | rfl) (h1 := by first | rfl | exact idC_one _ | exact peerC_one _ _ | exact rowOf_one _ _ (fun _ _ => rfl) | (simp only [List.size_toArray, List.length_cons, List.all_toArray', List.all_cons, List.all_nil, Value.oneCell', Bool.and_true, Bool.and_self]; done) | (simp [Value.oneCell']; done)) (h := ?_); clear hm; intro w1 hm; (try simp only [rowOf_set, k1, k2, k3, Value.cells, Act.eval, k7, k8, k9, kA, Option.getD_some] at hm)) | (refine wlSC (hm := hm) (hi := by first | exact sizeInt | exact sizeU64 | exact sizeBool | exact sizeIntS | exact sizePeerS) (ho := by first | decide | (simp only [rowOf_size, idC_size, peerC_size, letC_size]; omega) | (simp; done)) (h := ?_); clear hm; intro w1 hm; (try simp only [rowOf_set, k1, k2, k3, Value.cells, Act.eval, k7, k8, k9, kA, Option.getD_some] at hm)) | (refine wlA (hz := by first | exact zeroPeer | exact zeroID) (hm := hm) (h := ?_); clear hm; intro b1 w1 hm; (try simp only [rowOf_set, k1, k2, k3, Value.cells, Act.eval, k7, k8, k9, kA, Option.getD_some] at hm)) | (refine wl_box (by rfl) rfl (by first | exact peerV_cells _ _ | exact letV_cells _ | exact idV_cells _ | rfl) hm ?_; clear hm; intro b1 w1 hm) | (go_at_call 79; refine (ints_q h5 hn _ (H1.out.old hm) (H2.out.old hm)).mono ?_; rintro e w1 ⟨rfl, hx⟩; replace hm := hm.call hx; clear hx) | (go_at_call 80; refine (peers_q h8 hp _ (H3.out.old hm) (H4.out.old hm)).mono ?_; rintro e w1 ⟨rfl, hx⟩; replace hm := hm.call hx; clear hx) | (with_reducible first | refine stBs ?_ | refine stMs ?_ | refine stAp ?_ | refine stCo ?_)); (try simp only [k4, k5, k6, Act.put, k1, k2, k3]))
    go_ret
    exact ⟨rfl, hm.ext⟩
  rcases q8 with _ | _
  · go_enter Try.func43, Try.ntmps43
    have hm := Mem.refl w []
    go_wp2_with (with_reducible first | refine stAl ?_ | refine stBo ?_ | refine stLo ?_ | refine stSo ?_ | refine stBu ?_ | refine stBs ?_ | refine stMs ?_ | refine stAp ?_ | refine stCo ?_); refine Stop.go (wl_box (by rfl) rfl (letV_cells l) hm ?_); clear hm; intro b1 w1 hm; simp only [Act.put, k1, k2, k3]; (try simp only [rowOf_set, k1, k2, k3, Value.cells, Act.eval, k7, k8, k9, kA, Option.getD_some] at hm)
    go_wp2_with (with_reducible first | refine stAl ?_ | refine stBo ?_ | refine stLo ?_ | refine stSo ?_ | refine stBu ?_ | refine stBs ?_ | refine stMs ?_ | refine stAp ?_ | refine stCo ?_); refine Stop.go (wl_box (by rfl) rfl (letV_cells m) hm ?_); clear hm; intro b2 w2 hm; simp only [Act.put, k1, k2, k3]; (try simp only [rowOf_set, k1, k2, k3, Value.cells, Act.eval, k7, k8, k9, kA, Option.getD_some] at hm)
    go_wp2_with ((first | refine wpList_skip (by rfl) ?_ | (refine wlL (hm := hm) (hu := by first | exact undPeer | exact undID) (hi := by (try simp only [rowOf_size, idC_size, peerC_size, letC_size]); first | exact sizePeer | exact sizeID) (h := ?_); (try simp only [Act.put, k1, k2, k3]); (try simp only [← peerV_eq, ← idV_eq])) | (refine wlM (hm := hm) (hv := by first | exact let_id _ | exact let_from _ | exact let_peer _) (hu := by first | exact undPeer | exact undID) (hi := by (try simp only [rowOf_size, idC_size, peerC_size, letC_size]); first | exact sizePeer | exact sizeID) (h := ?_); (try simp only [Act.put, k1, k2, k3]); (try simp only [← peerV_eq, ← idV_eq])) | refine wlLC (hm := hm) (hv := by first | exact let0 _ | exact let1 _ | exact let22 _ | exact let43 _ | exact let44 _ | exact let45 _ | exact let66 _ | rfl) (hu := by first | exact undInt | exact undU64 | exact undBool | exact undIntS | exact undPeerS) (h := ?_) | (refine wlS (hm := hm) (hv := (by first | rfl | exact idV_eq _ | exact labV_eq _ _ | exact rectV_eq _ _ _ _ | exact peerV_eq _ _ | exact letV_eq _)) (hi := by (try simp only [rowOf_size, idC_size, peerC_size, letC_size]); first | exact sizePeer | exact sizeID) (hs := by first | (simp only [rowOf_size, idC_size, peerC_size, letC_size]; done) | rfl) (h1 := by first | rfl | exact idC_one _ | exact peerC_one _ _ | exact rowOf_one _ _ (fun _ _ => rfl) | (simp only [List.size_toArray, List.length_cons, List.all_toArray', List.all_cons, List.all_nil, Value.oneCell', Bool.and_true, Bool.and_self]; done) | (simp [Value.oneCell']; done)) (h := ?_); clear hm; intro w1 hm; (try simp only [rowOf_set, k1, k2, k3, Value.cells, Act.eval, k7, k8, k9, kA, Option.getD_some] at hm)) | (refine wlSC (hm := hm) (hi := by first | exact sizeInt | exact sizeU64 | exact sizeBool | exact sizeIntS | exact sizePeerS) (ho := by first | decide | (simp only [rowOf_size, idC_size, peerC_size, letC_size]; omega) | (simp; done)) (h := ?_); clear hm; intro w1 hm; (try simp only [rowOf_set, k1, k2, k3, Value.cells, Act.eval, k7, k8, k9, kA, Option.getD_some] at hm)) | (refine wlA (hz := by first | exact zeroPeer | exact zeroID) (hm := hm) (h := ?_); clear hm; intro b1 w1 hm; (try simp only [rowOf_set, k1, k2, k3, Value.cells, Act.eval, k7, k8, k9, kA, Option.getD_some] at hm)) | (refine wl_box (by rfl) rfl (by first | exact peerV_cells _ _ | exact letV_cells _ | exact idV_cells _ | rfl) hm ?_; clear hm; intro b1 w1 hm) | (go_at_call 79; refine (ints_q h5 hn _ (H1.out.old hm) (H2.out.old hm)).mono ?_; rintro e w1 ⟨rfl, hx⟩; replace hm := hm.call hx; clear hx) | (go_at_call 80; refine (peers_q h8 hp _ (H3.out.old hm) (H4.out.old hm)).mono ?_; rintro e w1 ⟨rfl, hx⟩; replace hm := hm.call hx; clear hx) | (with_reducible first | refine stBs ?_ | refine stMs ?_ | refine stAp ?_ | refine stCo ?_)); (try simp only [k4, k5, k6, Act.put, k1, k2, k3]))
    go_ret
    exact ⟨rfl, hm.ext⟩
  · go_enter Try.func43, Try.ntmps43
    have hm := Mem.refl w []
    go_wp2_with (with_reducible first | refine stAl ?_ | refine stBo ?_ | refine stLo ?_ | refine stSo ?_ | refine stBu ?_ | refine stBs ?_ | refine stMs ?_ | refine stAp ?_ | refine stCo ?_); refine Stop.go (wl_box (by rfl) rfl (letV_cells l) hm ?_); clear hm; intro b1 w1 hm; simp only [Act.put, k1, k2, k3]; (try simp only [rowOf_set, k1, k2, k3, Value.cells, Act.eval, k7, k8, k9, kA, Option.getD_some] at hm)
    go_wp2_with (with_reducible first | refine stAl ?_ | refine stBo ?_ | refine stLo ?_ | refine stSo ?_ | refine stBu ?_ | refine stBs ?_ | refine stMs ?_ | refine stAp ?_ | refine stCo ?_); refine Stop.go (wl_box (by rfl) rfl (letV_cells m) hm ?_); clear hm; intro b2 w2 hm; simp only [Act.put, k1, k2, k3]; (try simp only [rowOf_set, k1, k2, k3, Value.cells, Act.eval, k7, k8, k9, kA, Option.getD_some] at hm)
    go_wp2_with ((first | refine wpList_skip (by rfl) ?_ | (refine wlL (hm := hm) (hu := by first | exact undPeer | exact undID) (hi := by (try simp only [rowOf_size, idC_size, peerC_size, letC_size]); first | exact sizePeer | exact sizeID) (h := ?_); (try simp only [Act.put, k1, k2, k3]); (try simp only [← peerV_eq, ← idV_eq])) | (refine wlM (hm := hm) (hv := by first | exact let_id _ | exact let_from _ | exact let_peer _) (hu := by first | exact undPeer | exact undID) (hi := by (try simp only [rowOf_size, idC_size, peerC_size, letC_size]); first | exact sizePeer | exact sizeID) (h := ?_); (try simp only [Act.put, k1, k2, k3]); (try simp only [← peerV_eq, ← idV_eq])) | refine wlLC (hm := hm) (hv := by first | exact let0 _ | exact let1 _ | exact let22 _ | exact let43 _ | exact let44 _ | exact let45 _ | exact let66 _ | rfl) (hu := by first | exact undInt | exact undU64 | exact undBool | exact undIntS | exact undPeerS) (h := ?_) | (refine wlS (hm := hm) (hv := (by first | rfl | exact idV_eq _ | exact labV_eq _ _ | exact rectV_eq _ _ _ _ | exact peerV_eq _ _ | exact letV_eq _)) (hi := by (try simp only [rowOf_size, idC_size, peerC_size, letC_size]); first | exact sizePeer | exact sizeID) (hs := by first | (simp only [rowOf_size, idC_size, peerC_size, letC_size]; done) | rfl) (h1 := by first | rfl | exact idC_one _ | exact peerC_one _ _ | exact rowOf_one _ _ (fun _ _ => rfl) | (simp only [List.size_toArray, List.length_cons, List.all_toArray', List.all_cons, List.all_nil, Value.oneCell', Bool.and_true, Bool.and_self]; done) | (simp [Value.oneCell']; done)) (h := ?_); clear hm; intro w1 hm; (try simp only [rowOf_set, k1, k2, k3, Value.cells, Act.eval, k7, k8, k9, kA, Option.getD_some] at hm)) | (refine wlSC (hm := hm) (hi := by first | exact sizeInt | exact sizeU64 | exact sizeBool | exact sizeIntS | exact sizePeerS) (ho := by first | decide | (simp only [rowOf_size, idC_size, peerC_size, letC_size]; omega) | (simp; done)) (h := ?_); clear hm; intro w1 hm; (try simp only [rowOf_set, k1, k2, k3, Value.cells, Act.eval, k7, k8, k9, kA, Option.getD_some] at hm)) | (refine wlA (hz := by first | exact zeroPeer | exact zeroID) (hm := hm) (h := ?_); clear hm; intro b1 w1 hm; (try simp only [rowOf_set, k1, k2, k3, Value.cells, Act.eval, k7, k8, k9, kA, Option.getD_some] at hm)) | (refine wl_box (by rfl) rfl (by first | exact peerV_cells _ _ | exact letV_cells _ | exact idV_cells _ | rfl) hm ?_; clear hm; intro b1 w1 hm) | (go_at_call 79; refine (ints_q h5 hn _ (H1.out.old hm) (H2.out.old hm)).mono ?_; rintro e w1 ⟨rfl, hx⟩; replace hm := hm.call hx; clear hx) | (go_at_call 80; refine (peers_q h8 hp _ (H3.out.old hm) (H4.out.old hm)).mono ?_; rintro e w1 ⟨rfl, hx⟩; replace hm := hm.call hx; clear hx) | (with_reducible first | refine stBs ?_ | refine stMs ?_ | refine stAp ?_ | refine stCo ?_)); (try simp only [k4, k5, k6, Act.put, k1, k2, k3]))
    go_ret
    exact ⟨rfl, hm.ext⟩
end Go.Proofs.Ytijkmbebfodhdaa

/- (LetO)
  Letters: an operation that builds a value, and '!=' of any two places, as values.
-/
namespace Go.Proofs.Ytijkmbebfodhdaa
open Go.RowKit
set_option linter.unusedSimpArgs false
set_option linter.unusedVariables false
set_option maxRecDepth 20000

@[go_sem] theorem run_neqID (a b : Nat) (w : World) : (binOp .neq 24 (idV a) (idV b)).run Try.prog w = .ok (.bool (!eqId a b)) w := by
  rw [idV_eq, idV_eq, run_neq_struct, run_equalID]; rfl
theorem ld_build {P : Program} {a : Act} {w : World} {dst : Option Tmp} {ty : TypeId} {pos : String} {aft : Array Edge} {gd : Option (Nat × Bool)} {T : TypeId} {parts : Array (Nat × Operand)} {ps : List (Nat × Value)} {cells : Array Value}
    (hb : P.built T ps = some cells) (hp : (parts.map fun (i, x) => (i, a.eval x)).toList = ps) : (execOp a.eval ⟨dst, .build T parts, ty, pos, aft, gd⟩).run P w = .ok (.value (.agg cells)) w := by
  unfold execOp
  simp only [Sem.run_bind, run_build w T _ cells (hp ▸ hb), Result.andThen_ok, Sem.run_pure]
/-- The parts that a letter has something of, as bits. -/
def usedM (l : Let) : Nat :=
  (if l.req = 0 then 0 else 1) + (if eqId l.id 0 = true then 0 else 2) + (if 0 < l.an then 4 else 0) + (if l.done then 8 else 0) + (if samePeer l.pa l.pi (-1) 0 = true then 0 else 16) + (if 0 < l.pn then 32 else 0)
end Go.Proofs.Ytijkmbebfodhdaa

/- (LetG)
  Letters: a reader's number, place, peer: what they answer, and what they throw.
-/
namespace Go.Proofs.Ytijkmbebfodhdaa
open Go.RowKit
set_option linter.unusedSimpArgs false
set_option linter.unusedVariables false
set_option maxHeartbeats 1000000
set_option maxRecDepth 20000

theorem undRdP : Try.prog.underlying 41 = some (.pointer 76) := by kernel_rfl
theorem sizeRdP : (Try.prog.info? 41).map (·.size) = some 1 := by kernel_rfl
noncomputable def rdFields : Array Field := match Try.prog.underlying 103 with | some (.struct fs) => fs | _ => #[]
theorem undRd : Try.prog.underlying 103 = some (.struct rdFields) := by kernel_rfl
theorem sizeRd : (Try.prog.info? 103).map (·.size) = some 1 := by kernel_rfl
theorem zeroRd : (Try.prog.info? 103).bind (·.zero) = some (.agg #[.pointer none]) := by kernel_rfl
theorem built_peer (x : Int) (a : Nat) : Try.prog.built 60 [(0, .int .i64 x), (1, idV a)] = some (peerC x a) := by
  rw [peerC_eq, idV_eq, idC]
  unfold rowOf
  kernel_rfl
theorem pb {a : Act} {w : World} {dst : Option Tmp} {ty : TypeId} {pos : String} {aft : Array Edge} {gd : Option (Nat × Bool)} {parts : Array (Nat × Operand)} {x : Int} {p : Nat} (hp : (parts.map fun (i, x) => (i, a.eval x)).toList = [(0, .int .i64 x), (1, idV p)]) : (execOp a.eval ⟨dst, .build 60 parts, ty, pos, aft, gd⟩).run Try.prog w = .ok (.value (peerV x p)) w := by
  rw [peerV_eq]; exact ld_build (built_peer x p) hp
attribute [local irreducible] wpQuiet wpList wpAnyH Calls
/-- A call on a reader that throws an error. -/
def TakesP (f : FuncId) (args : Array Value) (b : Nat) (s : ByteArray) (x : Int) (r : ByteArray) : Prop :=
  ∀ w, w.heap[b]? = some (.cells #[.string s] 76 (0, 0)) → Calls Try.prog f args w fun e w' => e = .panicked [{ v := .iface 27 (.int .i64 x), recovered := false }] ∧ Mem w [b] [(b, .cells #[.string r] 76 (0, 0))] w'
theorem gNumber_ok (b : Nat) (s r : ByteArray) (v lo hi : Int) (hl : ¬ v < lo) (hh : ¬ hi < v) (hn : Takes 24 #[.pointer (some ⟨b, 0, none⟩)] b s (.tuple #[.int .u64 v, .int .i64 0]) r) :
    Takes 73 #[.agg #[.pointer (some ⟨b, 0, none⟩)], .int .u64 lo, .int .u64 hi] b s (.int .u64 v) r := by
  intro w hw
  have d1 : decide (v < lo) = false := decide_eq_false hl
  have d2 : decide (hi < v) = false := decide_eq_false hh
  clear hl hh
  go_enter Try.func73, Try.ntmps73
  have hm := Mem.start hw
  go_wp2_with ((first | refine wpList_skip (by rfl) ?_ | (refine wlL (hm := hm) (hu := by first | exact undPeer | exact undID | exact undRd) (hi := by (try simp only [rowOf_size, idC_size, peerC_size]); first | exact sizePeer | exact sizeID | exact sizeRd) (h := ?_); (try simp only [Act.put, k1, k2, k3]); (try simp only [← peerV_eq, ← idV_eq])) | refine wlLC (hm := hm) (hu := by first | exact undInt | exact undU64 | exact undBool | exact undStr | exact undRdP) (h := ?_) | (refine wlS (hm := hm) (hv := (by first | rfl | exact idV_eq _ | exact labV_eq _ _ | exact rectV_eq _ _ _ _ | exact peerV_eq _ _ | exact letV_eq _)) (hi := by (try simp only [rowOf_size, idC_size, peerC_size]); first | exact sizePeer | exact sizeID | exact sizeRd) (hs := by first | (simp only [rowOf_size, idC_size, peerC_size]; done) | rfl) (h1 := by first | rfl | exact idC_one _ | exact peerC_one _ _ | exact rowOf_one _ _ (fun _ _ => rfl) | (simp only [List.size_toArray, List.length_cons, List.all_toArray', List.all_cons, List.all_nil, Value.oneCell', Bool.and_true, Bool.and_self]; done) | (simp [Value.oneCell']; done)) (h := ?_); clear hm; intro w1 hm; (try simp only [rowOf_set, k1, k2, k3, Value.cells, Act.eval, k7, k8, k9, kA, Option.getD_some] at hm)) | (refine wlSC (hm := hm) (hi := by first | exact sizeInt | exact sizeU64 | exact sizeBool | exact sizeStr | exact sizeRdP) (ho := by first | decide | (simp only [rowOf_size, idC_size, peerC_size]; omega) | (simp; done)) (h := ?_); clear hm; intro w1 hm; (try simp only [rowOf_set, k1, k2, k3, Value.cells, Act.eval, k7, k8, k9, kA, Option.getD_some] at hm)) | (refine wlA (hz := by first | exact zeroPeer | exact zeroID | exact zeroRd) (hm := hm) (h := ?_); clear hm; intro b1 w1 hm; (try simp only [rowOf_set, k1, k2, k3, Value.cells, Act.eval, k7, k8, k9, kA, Option.getD_some] at hm)) | (refine wl_box (by rfl) rfl (by first | exact peerV_cells _ _ | exact letV_cells _ | exact idV_cells _ | rfl) hm ?_; clear hm; intro b1 w1 hm) | ((with_reducible show wpList _ _ _ (⟨_, .build 60 _, _, _, _, _⟩ :: _) _ _); refine wl_op (by rfl) fun K hK => ?_; refine ow_value (pb (x := v) (p := a) (by first | rfl | simp [Act.eval])) (hK _ _ ?_); clear hK K) | (go_at_call 24; refine (hn _ (hm.heap (by with_reducible first | exact at0 | exact at1 | exact at2 | exact at3))).mono ?_; rintro e w1 ⟨rfl, hx⟩; replace hm := hm.callAt (by with_reducible first | exact at0 | exact at1 | exact at2 | exact at3) hx; clear hx; simp only [k2, k3] at hm) | (go_at_call 30; refine (hn _ (hm.heap (by with_reducible first | exact at0 | exact at1 | exact at2 | exact at3))).mono ?_; rintro e w1 ⟨rfl, hx⟩; replace hm := hm.callAt (by with_reducible first | exact at0 | exact at1 | exact at2 | exact at3) hx; clear hx; simp only [k2, k3] at hm) | (with_reducible first | refine stBs ?_ | refine stMs ?_ | refine stAp ?_ | refine stCo ?_)); (try simp only [k4, k5, k6, Act.put, k1, k2, k3]))
  go_ret
  exact ⟨rfl, hm.tail⟩
theorem gNumber_form (b : Nat) (s r : ByteArray) (v lo hi : Int) (h : v < lo ∨ hi < v) (hn : Takes 24 #[.pointer (some ⟨b, 0, none⟩)] b s (.tuple #[.int .u64 v, .int .i64 0]) r) :
    TakesP 73 #[.agg #[.pointer (some ⟨b, 0, none⟩)], .int .u64 lo, .int .u64 hi] b s 3 r := by
  intro w hw
  by_cases hl : v < lo
  · have d1 : decide (v < lo) = true := decide_eq_true hl
    clear hl h
    go_enter Try.func73, Try.ntmps73
    have hm := Mem.start hw
    go_wp2_with ((first | refine wpList_skip (by rfl) ?_ | (refine wlL (hm := hm) (hu := by first | exact undPeer | exact undID | exact undRd) (hi := by (try simp only [rowOf_size, idC_size, peerC_size]); first | exact sizePeer | exact sizeID | exact sizeRd) (h := ?_); (try simp only [Act.put, k1, k2, k3]); (try simp only [← peerV_eq, ← idV_eq])) | refine wlLC (hm := hm) (hu := by first | exact undInt | exact undU64 | exact undBool | exact undStr | exact undRdP) (h := ?_) | (refine wlS (hm := hm) (hv := (by first | rfl | exact idV_eq _ | exact labV_eq _ _ | exact rectV_eq _ _ _ _ | exact peerV_eq _ _ | exact letV_eq _)) (hi := by (try simp only [rowOf_size, idC_size, peerC_size]); first | exact sizePeer | exact sizeID | exact sizeRd) (hs := by first | (simp only [rowOf_size, idC_size, peerC_size]; done) | rfl) (h1 := by first | rfl | exact idC_one _ | exact peerC_one _ _ | exact rowOf_one _ _ (fun _ _ => rfl) | (simp only [List.size_toArray, List.length_cons, List.all_toArray', List.all_cons, List.all_nil, Value.oneCell', Bool.and_true, Bool.and_self]; done) | (simp [Value.oneCell']; done)) (h := ?_); clear hm; intro w1 hm; (try simp only [rowOf_set, k1, k2, k3, Value.cells, Act.eval, k7, k8, k9, kA, Option.getD_some] at hm)) | (refine wlSC (hm := hm) (hi := by first | exact sizeInt | exact sizeU64 | exact sizeBool | exact sizeStr | exact sizeRdP) (ho := by first | decide | (simp only [rowOf_size, idC_size, peerC_size]; omega) | (simp; done)) (h := ?_); clear hm; intro w1 hm; (try simp only [rowOf_set, k1, k2, k3, Value.cells, Act.eval, k7, k8, k9, kA, Option.getD_some] at hm)) | (refine wlA (hz := by first | exact zeroPeer | exact zeroID | exact zeroRd) (hm := hm) (h := ?_); clear hm; intro b1 w1 hm; (try simp only [rowOf_set, k1, k2, k3, Value.cells, Act.eval, k7, k8, k9, kA, Option.getD_some] at hm)) | (refine wl_box (by rfl) rfl (by first | exact peerV_cells _ _ | exact letV_cells _ | exact idV_cells _ | rfl) hm ?_; clear hm; intro b1 w1 hm) | ((with_reducible show wpList _ _ _ (⟨_, .build 60 _, _, _, _, _⟩ :: _) _ _); refine wl_op (by rfl) fun K hK => ?_; refine ow_value (pb (x := v) (p := a) (by first | rfl | simp [Act.eval])) (hK _ _ ?_); clear hK K) | (go_at_call 24; refine (hn _ (hm.heap (by with_reducible first | exact at0 | exact at1 | exact at2 | exact at3))).mono ?_; rintro e w1 ⟨rfl, hx⟩; replace hm := hm.callAt (by with_reducible first | exact at0 | exact at1 | exact at2 | exact at3) hx; clear hx; simp only [k2, k3] at hm) | (go_at_call 30; refine (hn _ (hm.heap (by with_reducible first | exact at0 | exact at1 | exact at2 | exact at3))).mono ?_; rintro e w1 ⟨rfl, hx⟩; replace hm := hm.callAt (by with_reducible first | exact at0 | exact at1 | exact at2 | exact at3) hx; clear hx; simp only [k2, k3] at hm) | (with_reducible first | refine stBs ?_ | refine stMs ?_ | refine stAp ?_ | refine stCo ?_)); (try simp only [k4, k5, k6, Act.put, k1, k2, k3]))
    exact ⟨rfl, rfl, hm.tail⟩
  · have d1 : decide (v < lo) = false := decide_eq_false hl
    have d2 : decide (hi < v) = true := decide_eq_true (by omega)
    clear hl h
    go_enter Try.func73, Try.ntmps73
    have hm := Mem.start hw
    go_wp2_with ((first | refine wpList_skip (by rfl) ?_ | (refine wlL (hm := hm) (hu := by first | exact undPeer | exact undID | exact undRd) (hi := by (try simp only [rowOf_size, idC_size, peerC_size]); first | exact sizePeer | exact sizeID | exact sizeRd) (h := ?_); (try simp only [Act.put, k1, k2, k3]); (try simp only [← peerV_eq, ← idV_eq])) | refine wlLC (hm := hm) (hu := by first | exact undInt | exact undU64 | exact undBool | exact undStr | exact undRdP) (h := ?_) | (refine wlS (hm := hm) (hv := (by first | rfl | exact idV_eq _ | exact labV_eq _ _ | exact rectV_eq _ _ _ _ | exact peerV_eq _ _ | exact letV_eq _)) (hi := by (try simp only [rowOf_size, idC_size, peerC_size]); first | exact sizePeer | exact sizeID | exact sizeRd) (hs := by first | (simp only [rowOf_size, idC_size, peerC_size]; done) | rfl) (h1 := by first | rfl | exact idC_one _ | exact peerC_one _ _ | exact rowOf_one _ _ (fun _ _ => rfl) | (simp only [List.size_toArray, List.length_cons, List.all_toArray', List.all_cons, List.all_nil, Value.oneCell', Bool.and_true, Bool.and_self]; done) | (simp [Value.oneCell']; done)) (h := ?_); clear hm; intro w1 hm; (try simp only [rowOf_set, k1, k2, k3, Value.cells, Act.eval, k7, k8, k9, kA, Option.getD_some] at hm)) | (refine wlSC (hm := hm) (hi := by first | exact sizeInt | exact sizeU64 | exact sizeBool | exact sizeStr | exact sizeRdP) (ho := by first | decide | (simp only [rowOf_size, idC_size, peerC_size]; omega) | (simp; done)) (h := ?_); clear hm; intro w1 hm; (try simp only [rowOf_set, k1, k2, k3, Value.cells, Act.eval, k7, k8, k9, kA, Option.getD_some] at hm)) | (refine wlA (hz := by first | exact zeroPeer | exact zeroID | exact zeroRd) (hm := hm) (h := ?_); clear hm; intro b1 w1 hm; (try simp only [rowOf_set, k1, k2, k3, Value.cells, Act.eval, k7, k8, k9, kA, Option.getD_some] at hm)) | (refine wl_box (by rfl) rfl (by first | exact peerV_cells _ _ | exact letV_cells _ | exact idV_cells _ | rfl) hm ?_; clear hm; intro b1 w1 hm) | ((with_reducible show wpList _ _ _ (⟨_, .build 60 _, _, _, _, _⟩ :: _) _ _); refine wl_op (by rfl) fun K hK => ?_; refine ow_value (pb (x := v) (p := a) (by first | rfl | simp [Act.eval])) (hK _ _ ?_); clear hK K) | (go_at_call 24; refine (hn _ (hm.heap (by with_reducible first | exact at0 | exact at1 | exact at2 | exact at3))).mono ?_; rintro e w1 ⟨rfl, hx⟩; replace hm := hm.callAt (by with_reducible first | exact at0 | exact at1 | exact at2 | exact at3) hx; clear hx; simp only [k2, k3] at hm) | (go_at_call 30; refine (hn _ (hm.heap (by with_reducible first | exact at0 | exact at1 | exact at2 | exact at3))).mono ?_; rintro e w1 ⟨rfl, hx⟩; replace hm := hm.callAt (by with_reducible first | exact at0 | exact at1 | exact at2 | exact at3) hx; clear hx; simp only [k2, k3] at hm) | (with_reducible first | refine stBs ?_ | refine stMs ?_ | refine stAp ?_ | refine stCo ?_)); (try simp only [k4, k5, k6, Act.put, k1, k2, k3]))
    exact ⟨rfl, rfl, hm.tail⟩
theorem gNumber_err (b : Nat) (s r : ByteArray) (v lo hi e : Int) (he : e ≠ 0) (hn : Takes 24 #[.pointer (some ⟨b, 0, none⟩)] b s (.tuple #[.int .u64 v, .int .i64 e]) r) :
    TakesP 73 #[.agg #[.pointer (some ⟨b, 0, none⟩)], .int .u64 lo, .int .u64 hi] b s e r := by
  intro w hw
  have d1 : (e == 0) = false := by rw [beq_eq_false_iff_ne]; exact he
  have d2 : (e != 0) = true := by rw [bne_iff_ne]; exact he
  clear he
  go_enter Try.func73, Try.ntmps73
  have hm := Mem.start hw
  go_wp2_with ((first | refine wpList_skip (by rfl) ?_ | (refine wlL (hm := hm) (hu := by first | exact undPeer | exact undID | exact undRd) (hi := by (try simp only [rowOf_size, idC_size, peerC_size]); first | exact sizePeer | exact sizeID | exact sizeRd) (h := ?_); (try simp only [Act.put, k1, k2, k3]); (try simp only [← peerV_eq, ← idV_eq])) | refine wlLC (hm := hm) (hu := by first | exact undInt | exact undU64 | exact undBool | exact undStr | exact undRdP) (h := ?_) | (refine wlS (hm := hm) (hv := (by first | rfl | exact idV_eq _ | exact labV_eq _ _ | exact rectV_eq _ _ _ _ | exact peerV_eq _ _ | exact letV_eq _)) (hi := by (try simp only [rowOf_size, idC_size, peerC_size]); first | exact sizePeer | exact sizeID | exact sizeRd) (hs := by first | (simp only [rowOf_size, idC_size, peerC_size]; done) | rfl) (h1 := by first | rfl | exact idC_one _ | exact peerC_one _ _ | exact rowOf_one _ _ (fun _ _ => rfl) | (simp only [List.size_toArray, List.length_cons, List.all_toArray', List.all_cons, List.all_nil, Value.oneCell', Bool.and_true, Bool.and_self]; done) | (simp [Value.oneCell']; done)) (h := ?_); clear hm; intro w1 hm; (try simp only [rowOf_set, k1, k2, k3, Value.cells, Act.eval, k7, k8, k9, kA, Option.getD_some] at hm)) | (refine wlSC (hm := hm) (hi := by first | exact sizeInt | exact sizeU64 | exact sizeBool | exact sizeStr | exact sizeRdP) (ho := by first | decide | (simp only [rowOf_size, idC_size, peerC_size]; omega) | (simp; done)) (h := ?_); clear hm; intro w1 hm; (try simp only [rowOf_set, k1, k2, k3, Value.cells, Act.eval, k7, k8, k9, kA, Option.getD_some] at hm)) | (refine wlA (hz := by first | exact zeroPeer | exact zeroID | exact zeroRd) (hm := hm) (h := ?_); clear hm; intro b1 w1 hm; (try simp only [rowOf_set, k1, k2, k3, Value.cells, Act.eval, k7, k8, k9, kA, Option.getD_some] at hm)) | (refine wl_box (by rfl) rfl (by first | exact peerV_cells _ _ | exact letV_cells _ | exact idV_cells _ | rfl) hm ?_; clear hm; intro b1 w1 hm) | ((with_reducible show wpList _ _ _ (⟨_, .build 60 _, _, _, _, _⟩ :: _) _ _); refine wl_op (by rfl) fun K hK => ?_; refine ow_value (pb (x := v) (p := a) (by first | rfl | simp [Act.eval])) (hK _ _ ?_); clear hK K) | (go_at_call 24; refine (hn _ (hm.heap (by with_reducible first | exact at0 | exact at1 | exact at2 | exact at3))).mono ?_; rintro e w1 ⟨rfl, hx⟩; replace hm := hm.callAt (by with_reducible first | exact at0 | exact at1 | exact at2 | exact at3) hx; clear hx; simp only [k2, k3] at hm) | (go_at_call 30; refine (hn _ (hm.heap (by with_reducible first | exact at0 | exact at1 | exact at2 | exact at3))).mono ?_; rintro e w1 ⟨rfl, hx⟩; replace hm := hm.callAt (by with_reducible first | exact at0 | exact at1 | exact at2 | exact at3) hx; clear hx; simp only [k2, k3] at hm) | (with_reducible first | refine stBs ?_ | refine stMs ?_ | refine stAp ?_ | refine stCo ?_)); (try simp only [k4, k5, k6, Act.put, k1, k2, k3]))
  exact ⟨rfl, rfl, hm.tail⟩
theorem gPlace_ok (b : Nat) (s r : ByteArray) (a : Nat) (hn : Takes 30 #[.pointer (some ⟨b, 0, none⟩)] b s (.tuple #[idV a, .int .i64 0]) r) :
    Takes 75 #[.agg #[.pointer (some ⟨b, 0, none⟩)]] b s (idV a) r := by
  intro w hw
  go_enter Try.func75, Try.ntmps75
  have hm := Mem.start hw
  go_wp2_with ((first | refine wpList_skip (by rfl) ?_ | (refine wlL (hm := hm) (hu := by first | exact undPeer | exact undID | exact undRd) (hi := by (try simp only [rowOf_size, idC_size, peerC_size]); first | exact sizePeer | exact sizeID | exact sizeRd) (h := ?_); (try simp only [Act.put, k1, k2, k3]); (try simp only [← peerV_eq, ← idV_eq])) | refine wlLC (hm := hm) (hu := by first | exact undInt | exact undU64 | exact undBool | exact undStr | exact undRdP) (h := ?_) | (refine wlS (hm := hm) (hv := (by first | rfl | exact idV_eq _ | exact labV_eq _ _ | exact rectV_eq _ _ _ _ | exact peerV_eq _ _ | exact letV_eq _)) (hi := by (try simp only [rowOf_size, idC_size, peerC_size]); first | exact sizePeer | exact sizeID | exact sizeRd) (hs := by first | (simp only [rowOf_size, idC_size, peerC_size]; done) | rfl) (h1 := by first | rfl | exact idC_one _ | exact peerC_one _ _ | exact rowOf_one _ _ (fun _ _ => rfl) | (simp only [List.size_toArray, List.length_cons, List.all_toArray', List.all_cons, List.all_nil, Value.oneCell', Bool.and_true, Bool.and_self]; done) | (simp [Value.oneCell']; done)) (h := ?_); clear hm; intro w1 hm; (try simp only [rowOf_set, k1, k2, k3, Value.cells, Act.eval, k7, k8, k9, kA, Option.getD_some] at hm)) | (refine wlSC (hm := hm) (hi := by first | exact sizeInt | exact sizeU64 | exact sizeBool | exact sizeStr | exact sizeRdP) (ho := by first | decide | (simp only [rowOf_size, idC_size, peerC_size]; omega) | (simp; done)) (h := ?_); clear hm; intro w1 hm; (try simp only [rowOf_set, k1, k2, k3, Value.cells, Act.eval, k7, k8, k9, kA, Option.getD_some] at hm)) | (refine wlA (hz := by first | exact zeroPeer | exact zeroID | exact zeroRd) (hm := hm) (h := ?_); clear hm; intro b1 w1 hm; (try simp only [rowOf_set, k1, k2, k3, Value.cells, Act.eval, k7, k8, k9, kA, Option.getD_some] at hm)) | (refine wl_box (by rfl) rfl (by first | exact peerV_cells _ _ | exact letV_cells _ | exact idV_cells _ | rfl) hm ?_; clear hm; intro b1 w1 hm) | ((with_reducible show wpList _ _ _ (⟨_, .build 60 _, _, _, _, _⟩ :: _) _ _); refine wl_op (by rfl) fun K hK => ?_; refine ow_value (pb (x := v) (p := a) (by first | rfl | simp [Act.eval])) (hK _ _ ?_); clear hK K) | (go_at_call 24; refine (hn _ (hm.heap (by with_reducible first | exact at0 | exact at1 | exact at2 | exact at3))).mono ?_; rintro e w1 ⟨rfl, hx⟩; replace hm := hm.callAt (by with_reducible first | exact at0 | exact at1 | exact at2 | exact at3) hx; clear hx; simp only [k2, k3] at hm) | (go_at_call 30; refine (hn _ (hm.heap (by with_reducible first | exact at0 | exact at1 | exact at2 | exact at3))).mono ?_; rintro e w1 ⟨rfl, hx⟩; replace hm := hm.callAt (by with_reducible first | exact at0 | exact at1 | exact at2 | exact at3) hx; clear hx; simp only [k2, k3] at hm) | (with_reducible first | refine stBs ?_ | refine stMs ?_ | refine stAp ?_ | refine stCo ?_)); (try simp only [k4, k5, k6, Act.put, k1, k2, k3]))
  refine bodyPost_ret (results_cell_row (h := rfl) _ _ _ _ _ _ _ rfl (hm.heap (i := 1) rfl) undID rfl (by first | exact sizeID | (simp only [rowOf_size, idC_size, peerC_size]; exact sizeID))) rfl ?_
  exact ⟨by rw [idV_eq], hm.erase 0 |>.erase 0 |>.erase 0⟩
theorem gPlace_err (b : Nat) (s r : ByteArray) (a : Nat) (e : Int) (he : e ≠ 0) (hn : Takes 30 #[.pointer (some ⟨b, 0, none⟩)] b s (.tuple #[idV a, .int .i64 e]) r) :
    TakesP 75 #[.agg #[.pointer (some ⟨b, 0, none⟩)]] b s e r := by
  intro w hw
  have d2 : (e != 0) = true := by rw [bne_iff_ne]; exact he
  clear he
  go_enter Try.func75, Try.ntmps75
  have hm := Mem.start hw
  go_wp2_with ((first | refine wpList_skip (by rfl) ?_ | (refine wlL (hm := hm) (hu := by first | exact undPeer | exact undID | exact undRd) (hi := by (try simp only [rowOf_size, idC_size, peerC_size]); first | exact sizePeer | exact sizeID | exact sizeRd) (h := ?_); (try simp only [Act.put, k1, k2, k3]); (try simp only [← peerV_eq, ← idV_eq])) | refine wlLC (hm := hm) (hu := by first | exact undInt | exact undU64 | exact undBool | exact undStr | exact undRdP) (h := ?_) | (refine wlS (hm := hm) (hv := (by first | rfl | exact idV_eq _ | exact labV_eq _ _ | exact rectV_eq _ _ _ _ | exact peerV_eq _ _ | exact letV_eq _)) (hi := by (try simp only [rowOf_size, idC_size, peerC_size]); first | exact sizePeer | exact sizeID | exact sizeRd) (hs := by first | (simp only [rowOf_size, idC_size, peerC_size]; done) | rfl) (h1 := by first | rfl | exact idC_one _ | exact peerC_one _ _ | exact rowOf_one _ _ (fun _ _ => rfl) | (simp only [List.size_toArray, List.length_cons, List.all_toArray', List.all_cons, List.all_nil, Value.oneCell', Bool.and_true, Bool.and_self]; done) | (simp [Value.oneCell']; done)) (h := ?_); clear hm; intro w1 hm; (try simp only [rowOf_set, k1, k2, k3, Value.cells, Act.eval, k7, k8, k9, kA, Option.getD_some] at hm)) | (refine wlSC (hm := hm) (hi := by first | exact sizeInt | exact sizeU64 | exact sizeBool | exact sizeStr | exact sizeRdP) (ho := by first | decide | (simp only [rowOf_size, idC_size, peerC_size]; omega) | (simp; done)) (h := ?_); clear hm; intro w1 hm; (try simp only [rowOf_set, k1, k2, k3, Value.cells, Act.eval, k7, k8, k9, kA, Option.getD_some] at hm)) | (refine wlA (hz := by first | exact zeroPeer | exact zeroID | exact zeroRd) (hm := hm) (h := ?_); clear hm; intro b1 w1 hm; (try simp only [rowOf_set, k1, k2, k3, Value.cells, Act.eval, k7, k8, k9, kA, Option.getD_some] at hm)) | (refine wl_box (by rfl) rfl (by first | exact peerV_cells _ _ | exact letV_cells _ | exact idV_cells _ | rfl) hm ?_; clear hm; intro b1 w1 hm) | ((with_reducible show wpList _ _ _ (⟨_, .build 60 _, _, _, _, _⟩ :: _) _ _); refine wl_op (by rfl) fun K hK => ?_; refine ow_value (pb (x := v) (p := a) (by first | rfl | simp [Act.eval])) (hK _ _ ?_); clear hK K) | (go_at_call 24; refine (hn _ (hm.heap (by with_reducible first | exact at0 | exact at1 | exact at2 | exact at3))).mono ?_; rintro e w1 ⟨rfl, hx⟩; replace hm := hm.callAt (by with_reducible first | exact at0 | exact at1 | exact at2 | exact at3) hx; clear hx; simp only [k2, k3] at hm) | (go_at_call 30; refine (hn _ (hm.heap (by with_reducible first | exact at0 | exact at1 | exact at2 | exact at3))).mono ?_; rintro e w1 ⟨rfl, hx⟩; replace hm := hm.callAt (by with_reducible first | exact at0 | exact at1 | exact at2 | exact at3) hx; clear hx; simp only [k2, k3] at hm) | (with_reducible first | refine stBs ?_ | refine stMs ?_ | refine stAp ?_ | refine stCo ?_)); (try simp only [k4, k5, k6, Act.put, k1, k2, k3]))
  exact ⟨rfl, rfl, hm.erase 0 |>.erase 0 |>.erase 0⟩
theorem gPeer_ok (b : Nat) (s s1 r : ByteArray) (v : Int) (a : Nat) (hv : IntKind.i64.wrap v = v) (hn : Takes 73 #[.agg #[.pointer (some ⟨b, 0, none⟩)], .int .u64 0, .int .u64 999] b s (.int .u64 v) s1)
    (hp : Takes 75 #[.agg #[.pointer (some ⟨b, 0, none⟩)]] b s1 (idV a) r) :
    Takes 74 #[.agg #[.pointer (some ⟨b, 0, none⟩)]] b s (peerV v a) r := by
  intro w hw
  go_enter Try.func74, Try.ntmps74
  have hm := Mem.start hw
  go_wp2_with ((first | refine wpList_skip (by rfl) ?_ | (refine wlL (hm := hm) (hu := by first | exact undPeer | exact undID | exact undRd) (hi := by (try simp only [rowOf_size, idC_size, peerC_size]); first | exact sizePeer | exact sizeID | exact sizeRd) (h := ?_); (try simp only [Act.put, k1, k2, k3]); (try simp only [← peerV_eq, ← idV_eq])) | refine wlLC (hm := hm) (hu := by first | exact undInt | exact undU64 | exact undBool | exact undStr | exact undRdP) (h := ?_) | (refine wlS (hm := hm) (hv := (by first | rfl | exact idV_eq _ | exact labV_eq _ _ | exact rectV_eq _ _ _ _ | exact peerV_eq _ _ | exact letV_eq _)) (hi := by (try simp only [rowOf_size, idC_size, peerC_size]); first | exact sizePeer | exact sizeID | exact sizeRd) (hs := by first | (simp only [rowOf_size, idC_size, peerC_size]; done) | rfl) (h1 := by first | rfl | exact idC_one _ | exact peerC_one _ _ | exact rowOf_one _ _ (fun _ _ => rfl) | (simp only [List.size_toArray, List.length_cons, List.all_toArray', List.all_cons, List.all_nil, Value.oneCell', Bool.and_true, Bool.and_self]; done) | (simp [Value.oneCell']; done)) (h := ?_); clear hm; intro w1 hm; (try simp only [rowOf_set, k1, k2, k3, Value.cells, Act.eval, k7, k8, k9, kA, Option.getD_some] at hm)) | (refine wlSC (hm := hm) (hi := by first | exact sizeInt | exact sizeU64 | exact sizeBool | exact sizeStr | exact sizeRdP) (ho := by first | decide | (simp only [rowOf_size, idC_size, peerC_size]; omega) | (simp; done)) (h := ?_); clear hm; intro w1 hm; (try simp only [rowOf_set, k1, k2, k3, Value.cells, Act.eval, k7, k8, k9, kA, Option.getD_some] at hm)) | (refine wlA (hz := by first | exact zeroPeer | exact zeroID | exact zeroRd) (hm := hm) (h := ?_); clear hm; intro b1 w1 hm; (try simp only [rowOf_set, k1, k2, k3, Value.cells, Act.eval, k7, k8, k9, kA, Option.getD_some] at hm)) | (refine wl_box (by rfl) rfl (by first | exact peerV_cells _ _ | exact letV_cells _ | exact idV_cells _ | rfl) hm ?_; clear hm; intro b1 w1 hm) | ((with_reducible show wpList _ _ _ (⟨_, .build 60 _, _, _, _, _⟩ :: _) _ _); refine wl_op (by rfl) fun K hK => ?_; refine ow_value (pb (x := v) (p := a) (by first | rfl | simp [Act.eval])) (hK _ _ ?_); clear hK K) | (go_at_call 73; refine (hn _ (hm.heap (by with_reducible first | exact at0 | exact at1 | exact at2 | exact at3))).mono ?_; rintro e w1 ⟨rfl, hx⟩; replace hm := hm.callAt (by with_reducible first | exact at0 | exact at1 | exact at2 | exact at3) hx; clear hx; simp only [k2, k3] at hm) | (go_at_call 75; refine (hp _ (hm.heap (by with_reducible first | exact at0 | exact at1 | exact at2 | exact at3))).mono ?_; rintro e w1 ⟨rfl, hx⟩; replace hm := hm.callAt (by with_reducible first | exact at0 | exact at1 | exact at2 | exact at3) hx; clear hx; simp only [k2, k3] at hm) | (with_reducible first | refine stBs ?_ | refine stMs ?_ | refine stAp ?_ | refine stCo ?_)); (try simp only [k4, k5, k6, Act.put, k1, k2, k3]))
  refine bodyPost_ret (results_cell_row (h := rfl) _ _ _ _ _ _ _ rfl (hm.heap (i := 0) rfl) undPeer rfl (by first | exact sizePeer | (simp only [rowOf_size, idC_size, peerC_size]; exact sizePeer))) rfl ?_
  exact ⟨by rw [peerV_eq], hm.erase 0 |>.erase 0⟩
theorem gPeer_num (b : Nat) (s r : ByteArray) (x : Int) (hn : TakesP 73 #[.agg #[.pointer (some ⟨b, 0, none⟩)], .int .u64 0, .int .u64 999] b s x r) (hp : True) :
    TakesP 74 #[.agg #[.pointer (some ⟨b, 0, none⟩)]] b s x r := by
  intro w hw
  go_enter Try.func74, Try.ntmps74
  have hm := Mem.start hw
  go_wp2_with ((first | refine wpList_skip (by rfl) ?_ | (refine wlL (hm := hm) (hu := by first | exact undPeer | exact undID | exact undRd) (hi := by (try simp only [rowOf_size, idC_size, peerC_size]); first | exact sizePeer | exact sizeID | exact sizeRd) (h := ?_); (try simp only [Act.put, k1, k2, k3]); (try simp only [← peerV_eq, ← idV_eq])) | refine wlLC (hm := hm) (hu := by first | exact undInt | exact undU64 | exact undBool | exact undStr | exact undRdP) (h := ?_) | (refine wlS (hm := hm) (hv := (by first | rfl | exact idV_eq _ | exact labV_eq _ _ | exact rectV_eq _ _ _ _ | exact peerV_eq _ _ | exact letV_eq _)) (hi := by (try simp only [rowOf_size, idC_size, peerC_size]); first | exact sizePeer | exact sizeID | exact sizeRd) (hs := by first | (simp only [rowOf_size, idC_size, peerC_size]; done) | rfl) (h1 := by first | rfl | exact idC_one _ | exact peerC_one _ _ | exact rowOf_one _ _ (fun _ _ => rfl) | (simp only [List.size_toArray, List.length_cons, List.all_toArray', List.all_cons, List.all_nil, Value.oneCell', Bool.and_true, Bool.and_self]; done) | (simp [Value.oneCell']; done)) (h := ?_); clear hm; intro w1 hm; (try simp only [rowOf_set, k1, k2, k3, Value.cells, Act.eval, k7, k8, k9, kA, Option.getD_some] at hm)) | (refine wlSC (hm := hm) (hi := by first | exact sizeInt | exact sizeU64 | exact sizeBool | exact sizeStr | exact sizeRdP) (ho := by first | decide | (simp only [rowOf_size, idC_size, peerC_size]; omega) | (simp; done)) (h := ?_); clear hm; intro w1 hm; (try simp only [rowOf_set, k1, k2, k3, Value.cells, Act.eval, k7, k8, k9, kA, Option.getD_some] at hm)) | (refine wlA (hz := by first | exact zeroPeer | exact zeroID | exact zeroRd) (hm := hm) (h := ?_); clear hm; intro b1 w1 hm; (try simp only [rowOf_set, k1, k2, k3, Value.cells, Act.eval, k7, k8, k9, kA, Option.getD_some] at hm)) | (refine wl_box (by rfl) rfl (by first | exact peerV_cells _ _ | exact letV_cells _ | exact idV_cells _ | rfl) hm ?_; clear hm; intro b1 w1 hm) | ((with_reducible show wpList _ _ _ (⟨_, .build 60 _, _, _, _, _⟩ :: _) _ _); refine wl_op (by rfl) fun K hK => ?_; refine ow_value (pb (x := v) (p := a) (by first | rfl | simp [Act.eval])) (hK _ _ ?_); clear hK K) | (go_at_call 73; refine (hn _ (hm.heap (by with_reducible first | exact at0 | exact at1 | exact at2 | exact at3))).mono ?_; rintro e w1 ⟨rfl, hx⟩; replace hm := hm.callAt (by with_reducible first | exact at0 | exact at1 | exact at2 | exact at3) hx; clear hx; simp only [k2, k3] at hm) | (go_at_call 75; refine (hp _ (hm.heap (by with_reducible first | exact at0 | exact at1 | exact at2 | exact at3))).mono ?_; rintro e w1 ⟨rfl, hx⟩; replace hm := hm.callAt (by with_reducible first | exact at0 | exact at1 | exact at2 | exact at3) hx; clear hx; simp only [k2, k3] at hm) | (with_reducible first | refine stBs ?_ | refine stMs ?_ | refine stAp ?_ | refine stCo ?_)); (try simp only [k4, k5, k6, Act.put, k1, k2, k3]))
  exact ⟨rfl, rfl, hm.erase 0 |>.erase 0⟩
theorem gPeer_plc (b : Nat) (s s1 r : ByteArray) (v x : Int) (hv : IntKind.i64.wrap v = v) (hn : Takes 73 #[.agg #[.pointer (some ⟨b, 0, none⟩)], .int .u64 0, .int .u64 999] b s (.int .u64 v) s1)
    (hp : TakesP 75 #[.agg #[.pointer (some ⟨b, 0, none⟩)]] b s1 x r) :
    TakesP 74 #[.agg #[.pointer (some ⟨b, 0, none⟩)]] b s x r := by
  intro w hw
  go_enter Try.func74, Try.ntmps74
  have hm := Mem.start hw
  go_wp2_with ((first | refine wpList_skip (by rfl) ?_ | (refine wlL (hm := hm) (hu := by first | exact undPeer | exact undID | exact undRd) (hi := by (try simp only [rowOf_size, idC_size, peerC_size]); first | exact sizePeer | exact sizeID | exact sizeRd) (h := ?_); (try simp only [Act.put, k1, k2, k3]); (try simp only [← peerV_eq, ← idV_eq])) | refine wlLC (hm := hm) (hu := by first | exact undInt | exact undU64 | exact undBool | exact undStr | exact undRdP) (h := ?_) | (refine wlS (hm := hm) (hv := (by first | rfl | exact idV_eq _ | exact labV_eq _ _ | exact rectV_eq _ _ _ _ | exact peerV_eq _ _ | exact letV_eq _)) (hi := by (try simp only [rowOf_size, idC_size, peerC_size]); first | exact sizePeer | exact sizeID | exact sizeRd) (hs := by first | (simp only [rowOf_size, idC_size, peerC_size]; done) | rfl) (h1 := by first | rfl | exact idC_one _ | exact peerC_one _ _ | exact rowOf_one _ _ (fun _ _ => rfl) | (simp only [List.size_toArray, List.length_cons, List.all_toArray', List.all_cons, List.all_nil, Value.oneCell', Bool.and_true, Bool.and_self]; done) | (simp [Value.oneCell']; done)) (h := ?_); clear hm; intro w1 hm; (try simp only [rowOf_set, k1, k2, k3, Value.cells, Act.eval, k7, k8, k9, kA, Option.getD_some] at hm)) | (refine wlSC (hm := hm) (hi := by first | exact sizeInt | exact sizeU64 | exact sizeBool | exact sizeStr | exact sizeRdP) (ho := by first | decide | (simp only [rowOf_size, idC_size, peerC_size]; omega) | (simp; done)) (h := ?_); clear hm; intro w1 hm; (try simp only [rowOf_set, k1, k2, k3, Value.cells, Act.eval, k7, k8, k9, kA, Option.getD_some] at hm)) | (refine wlA (hz := by first | exact zeroPeer | exact zeroID | exact zeroRd) (hm := hm) (h := ?_); clear hm; intro b1 w1 hm; (try simp only [rowOf_set, k1, k2, k3, Value.cells, Act.eval, k7, k8, k9, kA, Option.getD_some] at hm)) | (refine wl_box (by rfl) rfl (by first | exact peerV_cells _ _ | exact letV_cells _ | exact idV_cells _ | rfl) hm ?_; clear hm; intro b1 w1 hm) | ((with_reducible show wpList _ _ _ (⟨_, .build 60 _, _, _, _, _⟩ :: _) _ _); refine wl_op (by rfl) fun K hK => ?_; refine ow_value (pb (x := v) (p := a) (by first | rfl | simp [Act.eval])) (hK _ _ ?_); clear hK K) | (go_at_call 73; refine (hn _ (hm.heap (by with_reducible first | exact at0 | exact at1 | exact at2 | exact at3))).mono ?_; rintro e w1 ⟨rfl, hx⟩; replace hm := hm.callAt (by with_reducible first | exact at0 | exact at1 | exact at2 | exact at3) hx; clear hx; simp only [k2, k3] at hm) | (go_at_call 75; refine (hp _ (hm.heap (by with_reducible first | exact at0 | exact at1 | exact at2 | exact at3))).mono ?_; rintro e w1 ⟨rfl, hx⟩; replace hm := hm.callAt (by with_reducible first | exact at0 | exact at1 | exact at2 | exact at3) hx; clear hx; simp only [k2, k3] at hm) | (with_reducible first | refine stBs ?_ | refine stMs ?_ | refine stAp ?_ | refine stCo ?_)); (try simp only [k4, k5, k6, Act.put, k1, k2, k3]))
  exact ⟨rfl, rfl, hm.erase 0 |>.erase 0⟩
end Go.Proofs.Ytijkmbebfodhdaa

/- (OpenI)
  How a place that came in is read (seats without chapter 1's functions).
-/
namespace Go.Proofs.Ytijkmbebfodhdaa
open Go.ChangeShapes Go.WideShapes Go.ChangeAt Go.RowKit
set_option linter.unusedVariables false
set_option maxRecDepth 20000

def numOf (f : Nat → Nat) : Nat → Nat
  | 0 => 0
  | k + 1 => 256 * numOf f k + f k

theorem numOf_dig (f : Nat → Nat) (hf : ∀ i, f i < 256) : ∀ k i, i < k → numOf f k / 256 ^ (k - 1 - i) % 256 = f i
  | 0, i, h => by omega
  | k + 1, i, h => by
    have h0 := hf k
    rw [numOf]
    by_cases hi : i = k
    · subst hi
      rw [show i + 1 - 1 - i = 0 from by omega, Nat.pow_zero, Nat.div_one]
      omega
    · have ih := numOf_dig f hf k i (by omega)
      rw [show k + 1 - 1 - i = (k - 1 - i) + 1 from by omega, Nat.pow_succ, Nat.mul_comm (256 ^ _) 256, ← Nat.div_div_eq_div_mul, show (256 * numOf f k + f k) / 256 = numOf f k from by omega]
      exact ih

theorem open_id {H : Type} {enc : TypeId × Value → H} {W : World} {base : Nat} {s : Nat → Bool} {held : Bool} {v : Value} {d : DataW H} {p : List MemPlace}
    (hv : Value.okWide Try.prog W .any base 24 v) (h : DataW.Trod enc Try.prog W 0 s held 24 v d p) : ∃ a, v = idV a := by
  unfold Value.okWide at hv
  rw [undID] at hv
  obtain ⟨cs, rfl, hcs, _⟩ := hv
  obtain ⟨fuel, hf⟩ := h
  obtain ⟨xs, m, rfl, _, hl, hxl, hx⟩ := DataW.trod_array undID hf
  have hc1 : Try.prog.cellsOf 5 = 1 := by kernel_rfl
  have hc20 : Try.prog.cellsOf 24 = 20 := by kernel_rfl
  rw [hc20] at hcs
  have each : ∀ i, i < 20 → ∃ n : Nat, n < 256 ∧ cs[i]? = some (.int .u8 (n : Int)) := fun i hi => by
    have h1 := hx i hi
    rw [hc1, Nat.mul_one] at h1
    have hsome : xs[i]? = some (xs[i]'(by omega)) := List.getElem?_eq_getElem _
    rw [hsome] at h1
    obtain ⟨n, e0, _, wn⟩ := DataW.trod_int undByteI h1
    have hw := bounds_u8 wn
    refine ⟨n.toNat, by omega, ?_⟩
    have e1 : (cs.toList.drop i).head? = some (.int .u8 n) := by
      have : ((Value.agg cs).cells.toList.drop i).take 1 = [.int .u8 n] := e0
      have hcells : (Value.agg cs).cells = cs := rfl
      rw [hcells] at this
      cases hd : cs.toList.drop i with
      | nil => rw [hd] at this; simp at this
      | cons x r => rw [hd] at this; simp at this; simp [this]
    rw [List.head?_drop] at e1
    rw [show ((n.toNat : Nat) : Int) = n from by omega]
    simpa using e1
  have hex : ∃ f : Nat → Nat, (∀ i, f i < 256) ∧ ∀ i, i < 20 → cs[i]? = some (.int .u8 ((f i : Nat) : Int)) := by
    refine ⟨fun i => match cs[i]? with | some (.int _ n) => if i < 20 then n.toNat else 0 | _ => 0, fun i => ?_, fun i hi => ?_⟩
    · by_cases hi : i < 20
      · obtain ⟨n, hn, he⟩ := each i hi
        simp [he, hi, hn]
      · have : cs[i]? = none := Array.getElem?_eq_none (by omega)
        simp [this]
    · obtain ⟨n, hn, he⟩ := each i hi
      simp [he, hi]
  obtain ⟨f, hf1, hf2⟩ := hex
  refine ⟨numOf f 20, ?_⟩
  rw [idV_eq]
  congr 1
  apply Array.ext_getElem?
  intro i
  by_cases hi : i < 20
  · rw [hf2 i hi, idC, rowOf_get _ _ i hi]
    have := numOf_dig f hf1 20 i hi
    unfold dig
    rw [show 19 - i = 20 - 1 - i from by omega, this]
  · rw [Array.getElem?_eq_none (by omega), Array.getElem?_eq_none (by rw [idC_size]; omega)]
end Go.Proofs.Ytijkmbebfodhdaa

/- (WirJ)
  Wire: the document's reader: a number, a text.
-/
namespace Go.Proofs.Ytijkmbebfodhdaa
open Go.RowKit
set_option linter.unusedSimpArgs false
set_option linter.unusedVariables false
set_option maxHeartbeats 1000000
set_option maxRecDepth 20000
attribute [local irreducible] wpQuiet wpList wpAnyH Calls

/-- A call on the document's reader. -/
def TakesR (f : FuncId) (args : Array Value) (b : Nat) (s : ByteArray) (v : Value) (r : ByteArray) : Prop :=
  ∀ w, w.heap[b]? = some (.cells #[.string s] 52 (0, 0)) → Calls Try.prog f args w fun e w' => e = .returned v ∧ Mem w [b] [(b, .cells #[.string r] 52 (0, 0))] w'
theorem get_more (s : ByteArray) (h : s.size = 0) : Says 54 #[.string s] (.tuple #[.int .u64 0, .int .i64 0, .int .i64 4]) := by
  intro w
  go_enter Try.func54, Try.ntmps54
  have hm := Mem.refl w []
  go_wp2_with ((first | refine wpList_skip (by rfl) ?_ | (refine wlL (hm := hm) (hu := by first | exact undID | exact undLabel) (hi := by (try simp only [rowOf_size, idC_size]); first | exact sizeID | exact sizeLabel) (h := ?_); (try simp only [Act.put, k1, k2, k3]); (try simp only [← labV_eq, ← idV_eq])) | refine wlLC (hm := hm) (hu := by first | exact undStr | exact undByteI | exact undInt | exact undU64) (h := ?_) | (refine wlS (hm := hm) (hv := (by first | rfl | exact idV_eq _ | exact labV_eq _ _ | exact rectV_eq _ _ _ _)) (hi := by (try simp only [rowOf_size, idC_size]); first | exact sizeID | exact sizeLabel) (hs := by first | (simp only [rowOf_size, idC_size]; done) | rfl) (h1 := by first | rfl | exact idC_one _ | exact rowOf_one _ _ (fun _ _ => rfl) | (simp only [List.size_toArray, List.length_cons, List.all_toArray', List.all_cons, List.all_nil, Value.oneCell', Bool.and_true, Bool.and_self]; done) | (simp [Value.oneCell']; done)) (h := ?_); clear hm; intro w1 hm; (try simp only [rowOf_set, k1, k2, k3, Value.cells, Act.eval, k7, k8, k9, kA, Option.getD_some] at hm)) | (refine wlSC (hm := hm) (hi := by first | exact sizeStr | exact sizeByteI | exact sizeInt | exact sizeU64) (ho := by first | decide | (simp only [rowOf_size, idC_size]; omega) | (simp; done)) (h := ?_); clear hm; intro w1 hm; (try simp only [rowOf_set, k1, k2, k3, Value.cells, Act.eval, k7, k8, k9, kA, Option.getD_some] at hm)) | (refine wlA (hz := by first | exact zeroID | exact zeroLabel) (hm := hm) (h := ?_); clear hm; intro b1 w1 hm; (try simp only [rowOf_set, k1, k2, k3, Value.cells, Act.eval, k7, k8, k9, kA, Option.getD_some] at hm)) | (refine wl_box (by rfl) rfl (by first | exact idV_cells _ | exact labV_cells _ _ | exact rectV_cells _ _ _ _ | rfl) hm ?_; clear hm; intro b1 w1 hm) | (go_at_call 20; refine (hn _).mono ?_; rintro e w1 ⟨rfl, hx⟩; replace hm := hm.call hx; clear hx) | (with_reducible first | refine stBs ?_ | refine stMs ?_ | refine stAp ?_ | refine stCo ?_)); (try simp only [k4, k5, k6, Act.put, k1, k2, k3]))
  go_ret3
  exact ⟨rfl, hm.ext⟩
theorem get_form (s : ByteArray) (m n : Nat) (h : s.size = m) (h0 : 0 < m) (hn : 8 < n) (hn2 : n < 256) (hI0 : ∀ w, (Instr.index 9 (.string s) (.int .i64 0)).run Try.prog w = .ok (.int .u8 (n : Int)) w) : Says 54 #[.string s] (.tuple #[.int .u64 0, .int .i64 0, .int .i64 3]) := by
  intro w
  have d1 : ((m : Int) == 0) = false := by rw [beq_eq_false_iff_ne]; omega
  have d2 : ¬ m = 0 := by omega
  have f1 : IntKind.i64.wrap (n : Int) = (n : Int) := wrap_i64 (by omega) (by omega)
  go_enter Try.func54, Try.ntmps54
  have hm := Mem.refl w []
  go_wp2_with ((first | refine wpList_skip (by rfl) ?_ | (refine wlL (hm := hm) (hu := by first | exact undID | exact undLabel) (hi := by (try simp only [rowOf_size, idC_size]); first | exact sizeID | exact sizeLabel) (h := ?_); (try simp only [Act.put, k1, k2, k3]); (try simp only [← labV_eq, ← idV_eq])) | refine wlLC (hm := hm) (hu := by first | exact undStr | exact undByteI | exact undInt | exact undU64) (h := ?_) | (refine wlS (hm := hm) (hv := (by first | rfl | exact idV_eq _ | exact labV_eq _ _ | exact rectV_eq _ _ _ _)) (hi := by (try simp only [rowOf_size, idC_size]); first | exact sizeID | exact sizeLabel) (hs := by first | (simp only [rowOf_size, idC_size]; done) | rfl) (h1 := by first | rfl | exact idC_one _ | exact rowOf_one _ _ (fun _ _ => rfl) | (simp only [List.size_toArray, List.length_cons, List.all_toArray', List.all_cons, List.all_nil, Value.oneCell', Bool.and_true, Bool.and_self]; done) | (simp [Value.oneCell']; done)) (h := ?_); clear hm; intro w1 hm; (try simp only [rowOf_set, k1, k2, k3, Value.cells, Act.eval, k7, k8, k9, kA, Option.getD_some] at hm)) | (refine wlSC (hm := hm) (hi := by first | exact sizeStr | exact sizeByteI | exact sizeInt | exact sizeU64) (ho := by first | decide | (simp only [rowOf_size, idC_size]; omega) | (simp; done)) (h := ?_); clear hm; intro w1 hm; (try simp only [rowOf_set, k1, k2, k3, Value.cells, Act.eval, k7, k8, k9, kA, Option.getD_some] at hm)) | (refine wlA (hz := by first | exact zeroID | exact zeroLabel) (hm := hm) (h := ?_); clear hm; intro b1 w1 hm; (try simp only [rowOf_set, k1, k2, k3, Value.cells, Act.eval, k7, k8, k9, kA, Option.getD_some] at hm)) | (refine wl_box (by rfl) rfl (by first | exact idV_cells _ | exact labV_cells _ _ | exact rectV_cells _ _ _ _ | rfl) hm ?_; clear hm; intro b1 w1 hm) | (go_at_call 20; refine (hn _).mono ?_; rintro e w1 ⟨rfl, hx⟩; replace hm := hm.call hx; clear hx) | (with_reducible first | refine stBs ?_ | refine stMs ?_ | refine stAp ?_ | refine stCo ?_)); (try simp only [k4, k5, k6, Act.put, k1, k2, k3]))
  go_ret3
  exact ⟨rfl, hm.ext⟩
theorem get_cut (s : ByteArray) (m n : Nat) (h : s.size = m) (h0 : 0 < m) (hn : ¬ 8 < n) (hlt : m < n + 1) (hI0 : ∀ w, (Instr.index 9 (.string s) (.int .i64 0)).run Try.prog w = .ok (.int .u8 (n : Int)) w) : Says 54 #[.string s] (.tuple #[.int .u64 0, .int .i64 0, .int .i64 4]) := by
  intro w
  have d1 : ((m : Int) == 0) = false := by rw [beq_eq_false_iff_ne]; omega
  have d2 : ¬ m = 0 := by omega
  have f1 : IntKind.i64.wrap (n : Int) = (n : Int) := wrap_i64 (by omega) (by omega)
  obtain ⟨n1, hn1⟩ : ∃ x, n + 1 = x := ⟨_, rfl⟩
  have f2 : IntKind.i64.wrap (1 + (n : Int)) = (n1 : Int) := by rw [wrap_i64 (by omega) (by omega)]; omega
  rw [hn1] at hlt
  clear hn1
  go_enter Try.func54, Try.ntmps54
  have hm := Mem.refl w []
  go_wp2_with ((first | refine wpList_skip (by rfl) ?_ | (refine wlL (hm := hm) (hu := by first | exact undID | exact undLabel) (hi := by (try simp only [rowOf_size, idC_size]); first | exact sizeID | exact sizeLabel) (h := ?_); (try simp only [Act.put, k1, k2, k3]); (try simp only [← labV_eq, ← idV_eq])) | refine wlLC (hm := hm) (hu := by first | exact undStr | exact undByteI | exact undInt | exact undU64) (h := ?_) | (refine wlS (hm := hm) (hv := (by first | rfl | exact idV_eq _ | exact labV_eq _ _ | exact rectV_eq _ _ _ _)) (hi := by (try simp only [rowOf_size, idC_size]); first | exact sizeID | exact sizeLabel) (hs := by first | (simp only [rowOf_size, idC_size]; done) | rfl) (h1 := by first | rfl | exact idC_one _ | exact rowOf_one _ _ (fun _ _ => rfl) | (simp only [List.size_toArray, List.length_cons, List.all_toArray', List.all_cons, List.all_nil, Value.oneCell', Bool.and_true, Bool.and_self]; done) | (simp [Value.oneCell']; done)) (h := ?_); clear hm; intro w1 hm; (try simp only [rowOf_set, k1, k2, k3, Value.cells, Act.eval, k7, k8, k9, kA, Option.getD_some] at hm)) | (refine wlSC (hm := hm) (hi := by first | exact sizeStr | exact sizeByteI | exact sizeInt | exact sizeU64) (ho := by first | decide | (simp only [rowOf_size, idC_size]; omega) | (simp; done)) (h := ?_); clear hm; intro w1 hm; (try simp only [rowOf_set, k1, k2, k3, Value.cells, Act.eval, k7, k8, k9, kA, Option.getD_some] at hm)) | (refine wlA (hz := by first | exact zeroID | exact zeroLabel) (hm := hm) (h := ?_); clear hm; intro b1 w1 hm; (try simp only [rowOf_set, k1, k2, k3, Value.cells, Act.eval, k7, k8, k9, kA, Option.getD_some] at hm)) | (refine wl_box (by rfl) rfl (by first | exact idV_cells _ | exact labV_cells _ _ | exact rectV_cells _ _ _ _ | rfl) hm ?_; clear hm; intro b1 w1 hm) | (go_at_call 20; refine (hn _).mono ?_; rintro e w1 ⟨rfl, hx⟩; replace hm := hm.call hx; clear hx) | (with_reducible first | refine stBs ?_ | refine stMs ?_ | refine stAp ?_ | refine stCo ?_)); (try simp only [k4, k5, k6, Act.put, k1, k2, k3]))
  go_ret3
  exact ⟨rfl, hm.ext⟩
theorem get_go (s t A : ByteArray) (m n : Nat) (F : Nat → Nat) (hF : ∀ k, F k < 256) (h : s.size = m) (hm6 : m < 2 ^ 61) (hn : n ≤ 8) (hlt : n + 1 ≤ m) (q : Bool) (hI0 : ∀ w, (Instr.index 9 (.string s) (.int .i64 0)).run Try.prog w = .ok (.int .u8 (n : Int)) w)
    (hI : ∀ k : Nat, k < n → ∀ w, (Instr.index 9 (.string s) (.int .i64 ((k + 1 : Nat) : Int))).run Try.prog w = .ok (.int .u8 ((F k : Nat) : Int)) w)
    (ht : s.extract 0 (n + 1) = t) (hnA : Says 20 #[.int .u64 ((valB F n : Nat) : Int)] (.string A)) (hq : (A.toList != t.toList) = q) :
    Says 54 #[.string s] (if q then .tuple #[.int .u64 0, .int .i64 0, .int .i64 3] else .tuple #[.int .u64 ((valB F n : Nat) : Int), .int .i64 ((n + 1 : Nat) : Int), .int .i64 0]) := by
  intro w
  obtain ⟨res, hres⟩ : ∃ res, (if q then Value.tuple #[.int .u64 0, .int .i64 0, .int .i64 3] else .tuple #[.int .u64 ((valB F n : Nat) : Int), .int .i64 ((n + 1 : Nat) : Int), .int .i64 0]) = res := ⟨_, rfl⟩
  rw [hres]
  have HRes := hid hres
  have hq2 : (A.toList == t.toList) = !q := by rw [← hq]; simp [bne]
  have d1 : ((m : Int) == 0) = false := by rw [beq_eq_false_iff_ne]; omega
  have d2 : ¬ m = 0 := by omega
  have d3 : ¬ 8 < n := by omega
  have f1 : IntKind.i64.wrap (n : Int) = (n : Int) := wrap_i64 (by omega) (by omega)
  have HI := hid hI
  have HF := hid hF
  have HN := hid hn
  have HA := hid hnA
  have hsl := slice_to (s := s) (t := t) (n := n + 1) (by omega) ht
  obtain ⟨n1, hn1⟩ : ∃ x, n + 1 = x := ⟨_, rfl⟩
  have f2 : IntKind.i64.wrap (1 + (n : Int)) = (n1 : Int) := by rw [wrap_i64 (by omega) (by omega)]; omega
  have d4 : ¬ m < n1 := by omega
  rw [hn1] at hsl HRes
  have HN1 := hid hn1
  clear hn1 hres hI hF hn hnA ht hlt
  go_enter Try.func54, Try.ntmps54
  have hm := Mem.refl w []
  go_wp2_with ((first | refine wpList_skip (by rfl) ?_ | (refine wlL (hm := hm) (hu := by first | exact undID | exact undLabel) (hi := by (try simp only [rowOf_size, idC_size]); first | exact sizeID | exact sizeLabel) (h := ?_); (try simp only [Act.put, k1, k2, k3]); (try simp only [← labV_eq, ← idV_eq])) | refine wlLC (hm := hm) (hu := by first | exact undStr | exact undByteI | exact undInt | exact undU64) (h := ?_) | (refine wlS (hm := hm) (hv := (by first | rfl | exact idV_eq _ | exact labV_eq _ _ | exact rectV_eq _ _ _ _)) (hi := by (try simp only [rowOf_size, idC_size]); first | exact sizeID | exact sizeLabel) (hs := by first | (simp only [rowOf_size, idC_size]; done) | rfl) (h1 := by first | rfl | exact idC_one _ | exact rowOf_one _ _ (fun _ _ => rfl) | (simp only [List.size_toArray, List.length_cons, List.all_toArray', List.all_cons, List.all_nil, Value.oneCell', Bool.and_true, Bool.and_self]; done) | (simp [Value.oneCell']; done)) (h := ?_); clear hm; intro w1 hm; (try simp only [rowOf_set, k1, k2, k3, Value.cells, Act.eval, k7, k8, k9, kA, Option.getD_some] at hm)) | (refine wlSC (hm := hm) (hi := by first | exact sizeStr | exact sizeByteI | exact sizeInt | exact sizeU64) (ho := by first | decide | (simp only [rowOf_size, idC_size]; omega) | (simp; done)) (h := ?_); clear hm; intro w1 hm; (try simp only [rowOf_set, k1, k2, k3, Value.cells, Act.eval, k7, k8, k9, kA, Option.getD_some] at hm)) | (refine wlA (hz := by first | exact zeroID | exact zeroLabel) (hm := hm) (h := ?_); clear hm; intro b1 w1 hm; (try simp only [rowOf_set, k1, k2, k3, Value.cells, Act.eval, k7, k8, k9, kA, Option.getD_some] at hm)) | (refine wl_box (by rfl) rfl (by first | exact idV_cells _ | exact labV_cells _ _ | exact rectV_cells _ _ _ _ | rfl) hm ?_; clear hm; intro b1 w1 hm) | (go_at_call 20; refine (hn _).mono ?_; rintro e w1 ⟨rfl, hx⟩; replace hm := hm.call hx; clear hx) | (with_reducible first | refine stBs ?_ | refine stMs ?_ | refine stAp ?_ | refine stCo ?_)); (try simp only [k4, k5, k6, Act.put, k1, k2, k3]))
  clear hI0 f1 d3 d4 d1 d2
  go_loopw [6, 7] (fun vv vi wr => ∃ k i : Nat, k ≤ n ∧ k + 1 = i ∧ vi = .int .i64 (i : Int) ∧ vv = .int .u64 ((valB F k : Nat) : Int) ∧ Mem w [] [] wr)
    (fun _ vi _ => (n + 1 - intOf vi).toNat)
  case atStart => exact ⟨0, 1, by omega, rfl, rfl, rfl, hm⟩
  case round =>
    clear hm
    obtain ⟨k, i, hk, hki, rfl, rfl, hm⟩ := hrel
    by_cases hkn : k < n
    · have hi := HI.out k hkn
      have hfk := HF.out k
      have hv := valB_lt F HF.out k
      have hp : 256 ^ k ≤ 256 ^ 7 := Nat.pow_le_pow_right (by omega) (by have := HN.out; omega)
      have HS := hid (show valB F (k + 1) = valB F k * 256 + F k from rfl)
      rw [hki] at hi
      obtain ⟨v, hv'⟩ : ∃ v, valB F k = v := ⟨_, rfl⟩
      obtain ⟨y, hy⟩ : ∃ y, F k = y := ⟨_, rfl⟩
      rw [hv'] at hv HS ⊢
      rw [hy] at hi hfk HS
      have hv56 : v < 2 ^ 56 := by have : (256 : Nat) ^ 7 = 2 ^ 56 := by decide
                                   omega
      obtain ⟨z, hz⟩ : ∃ z, v * 256 + y = z := ⟨_, rfl⟩
      rw [hz] at HS
      obtain ⟨u, hu⟩ : ∃ u, v * 256 = u := ⟨_, rfl⟩
      have g1 : IntKind.u64.wrap (256 * (v : Int)) = (u : Int) := by rw [wrap_u64 (by omega) (by omega)]; omega
      have g2 : IntKind.u64.wrap (y : Int) = (y : Int) := wrap_u64 (by omega) (by omega)
      have g3 : IntKind.u64.wrap ((u : Int) + (y : Int)) = (z : Int) := by rw [wrap_u64 (by omega) (by omega)]; omega
      have g4 : IntKind.i64.wrap ((i : Int) + 1) = (i : Int) + 1 := wrap_i64 (by have := HN.out; omega) (by have := HN.out; omega)
      have e1 : (i : Int) ≤ (n : Int) := by omega
      have e2 : i ≤ n := by omega
      have HK := hid (show k + 1 ≤ n ∧ k + 1 + 1 = i + 1 from ⟨by omega, by omega⟩)
      clear hv' hy hz hu hv56 hv hp hfk hk hki hkn
      go_wp2_with ((first | refine wpList_skip (by rfl) ?_ | (refine wlL (hm := hm) (hu := by first | exact undID | exact undLabel) (hi := by (try simp only [rowOf_size, idC_size]); first | exact sizeID | exact sizeLabel) (h := ?_); (try simp only [Act.put, k1, k2, k3]); (try simp only [← labV_eq, ← idV_eq])) | refine wlLC (hm := hm) (hu := by first | exact undStr | exact undByteI | exact undInt | exact undU64) (h := ?_) | (refine wlS (hm := hm) (hv := (by first | rfl | exact idV_eq _ | exact labV_eq _ _ | exact rectV_eq _ _ _ _)) (hi := by (try simp only [rowOf_size, idC_size]); first | exact sizeID | exact sizeLabel) (hs := by first | (simp only [rowOf_size, idC_size]; done) | rfl) (h1 := by first | rfl | exact idC_one _ | exact rowOf_one _ _ (fun _ _ => rfl) | (simp only [List.size_toArray, List.length_cons, List.all_toArray', List.all_cons, List.all_nil, Value.oneCell', Bool.and_true, Bool.and_self]; done) | (simp [Value.oneCell']; done)) (h := ?_); clear hm; intro w1 hm; (try simp only [rowOf_set, k1, k2, k3, Value.cells, Act.eval, k7, k8, k9, kA, Option.getD_some] at hm)) | (refine wlSC (hm := hm) (hi := by first | exact sizeStr | exact sizeByteI | exact sizeInt | exact sizeU64) (ho := by first | decide | (simp only [rowOf_size, idC_size]; omega) | (simp; done)) (h := ?_); clear hm; intro w1 hm; (try simp only [rowOf_set, k1, k2, k3, Value.cells, Act.eval, k7, k8, k9, kA, Option.getD_some] at hm)) | (refine wlA (hz := by first | exact zeroID | exact zeroLabel) (hm := hm) (h := ?_); clear hm; intro b1 w1 hm; (try simp only [rowOf_set, k1, k2, k3, Value.cells, Act.eval, k7, k8, k9, kA, Option.getD_some] at hm)) | (refine wl_box (by rfl) rfl (by first | exact idV_cells _ | exact labV_cells _ _ | exact rectV_cells _ _ _ _ | rfl) hm ?_; clear hm; intro b1 w1 hm) | (go_at_call 20; refine (hn _).mono ?_; rintro e w1 ⟨rfl, hx⟩; replace hm := hm.call hx; clear hx) | (with_reducible first | refine stBs ?_ | refine stMs ?_ | refine stAp ?_ | refine stCo ?_)); (try simp only [k4, k5, k6, Act.put, k1, k2, k3]))
      go_roundw
      case rel => exact ⟨k + 1, i + 1, HK.out.1, HK.out.2, by go_num, by rw [HS.out], hm⟩
      case measure => (have := HK.out; simp [intOf]; try omega)
    · obtain rfl : k = n := by omega
      have e1 : ¬ (i : Int) ≤ (k : Int) := by omega
      have e2 : ¬ i ≤ k := by omega
      have hn := HA.out
      obtain ⟨v, hv⟩ : ∃ v, valB F k = v := ⟨_, rfl⟩
      have hrs := HRes.out
      rw [hv] at hn hrs
      rw [hv]
      have HR2 := hid hrs
      clear hrs hk hkn hv hki HRes
      cases q with
      | false =>
        have hrs := HR2.out
        rw [if_neg (by decide)] at hrs
        have HR3 := hid hrs
        clear hrs HR2
        go_wp2_with ((first | refine wpList_skip (by rfl) ?_ | (refine wlL (hm := hm) (hu := by first | exact undID | exact undLabel) (hi := by (try simp only [rowOf_size, idC_size]); first | exact sizeID | exact sizeLabel) (h := ?_); (try simp only [Act.put, k1, k2, k3]); (try simp only [← labV_eq, ← idV_eq])) | refine wlLC (hm := hm) (hu := by first | exact undStr | exact undByteI | exact undInt | exact undU64) (h := ?_) | (refine wlS (hm := hm) (hv := (by first | rfl | exact idV_eq _ | exact labV_eq _ _ | exact rectV_eq _ _ _ _)) (hi := by (try simp only [rowOf_size, idC_size]); first | exact sizeID | exact sizeLabel) (hs := by first | (simp only [rowOf_size, idC_size]; done) | rfl) (h1 := by first | rfl | exact idC_one _ | exact rowOf_one _ _ (fun _ _ => rfl) | (simp only [List.size_toArray, List.length_cons, List.all_toArray', List.all_cons, List.all_nil, Value.oneCell', Bool.and_true, Bool.and_self]; done) | (simp [Value.oneCell']; done)) (h := ?_); clear hm; intro w1 hm; (try simp only [rowOf_set, k1, k2, k3, Value.cells, Act.eval, k7, k8, k9, kA, Option.getD_some] at hm)) | (refine wlSC (hm := hm) (hi := by first | exact sizeStr | exact sizeByteI | exact sizeInt | exact sizeU64) (ho := by first | decide | (simp only [rowOf_size, idC_size]; omega) | (simp; done)) (h := ?_); clear hm; intro w1 hm; (try simp only [rowOf_set, k1, k2, k3, Value.cells, Act.eval, k7, k8, k9, kA, Option.getD_some] at hm)) | (refine wlA (hz := by first | exact zeroID | exact zeroLabel) (hm := hm) (h := ?_); clear hm; intro b1 w1 hm; (try simp only [rowOf_set, k1, k2, k3, Value.cells, Act.eval, k7, k8, k9, kA, Option.getD_some] at hm)) | (refine wl_box (by rfl) rfl (by first | exact idV_cells _ | exact labV_cells _ _ | exact rectV_cells _ _ _ _ | rfl) hm ?_; clear hm; intro b1 w1 hm) | (go_at_call 20; refine (hn _).mono ?_; rintro e w1 ⟨rfl, hx⟩; replace hm := hm.call hx; clear hx) | (with_reducible first | refine stBs ?_ | refine stMs ?_ | refine stAp ?_ | refine stCo ?_)); (try simp only [k4, k5, k6, Act.put, k1, k2, k3]))
        go_wp2_with (with_reducible first | refine stAl ?_ | refine stBo ?_ | refine stLo ?_ | refine stSo ?_ | refine stBu ?_ | refine stBs ?_ | refine stMs ?_ | refine stAp ?_ | refine stCo ?_); refine wp_quiet_mem (by kernel_rfl) (by kernel_rfl) hm ?_
        repeat ((first | refine wq_skip (by rfl) ?_ | (refine wqL (hu := by first | exact undID | exact undLabel) (hi := by (try simp only [rowOf_size, idC_size]); first | exact sizeID | exact sizeLabel) (h := ?_); (try simp only [Act.put, k1, k2, k3]); (try simp only [← labV_eq, ← idV_eq])) | refine wqLC (hu := by first | exact undStr | exact undByteI | exact undInt | exact undU64) (h := ?_) | ((with_reducible show wpQuiet _ _ _ _ (⟨_, .call _, _, _, _, _⟩ :: _) _); refine wq_ask (by rfl) ?_; apply Exists.intro; refine ⟨?_, ?_⟩; (focus (intro w hC; go_simp; first | (go_at_call 20; exact (hn _).mono fun e w' h => ⟨h.1, hC.call h.2⟩)))) | refine wqS (h := ?_)); (try simp only [k4, k5, k6, Act.put, k1, k2, k3]))
        refine wpQuiet_nil ?_; clear hm; intro w5 hm
        go_wp2_with ((first | refine wpList_skip (by rfl) ?_ | (refine wlL (hm := hm) (hu := by first | exact undID | exact undLabel) (hi := by (try simp only [rowOf_size, idC_size]); first | exact sizeID | exact sizeLabel) (h := ?_); (try simp only [Act.put, k1, k2, k3]); (try simp only [← labV_eq, ← idV_eq])) | refine wlLC (hm := hm) (hu := by first | exact undStr | exact undByteI | exact undInt | exact undU64) (h := ?_) | (refine wlS (hm := hm) (hv := (by first | rfl | exact idV_eq _ | exact labV_eq _ _ | exact rectV_eq _ _ _ _)) (hi := by (try simp only [rowOf_size, idC_size]); first | exact sizeID | exact sizeLabel) (hs := by first | (simp only [rowOf_size, idC_size]; done) | rfl) (h1 := by first | rfl | exact idC_one _ | exact rowOf_one _ _ (fun _ _ => rfl) | (simp only [List.size_toArray, List.length_cons, List.all_toArray', List.all_cons, List.all_nil, Value.oneCell', Bool.and_true, Bool.and_self]; done) | (simp [Value.oneCell']; done)) (h := ?_); clear hm; intro w1 hm; (try simp only [rowOf_set, k1, k2, k3, Value.cells, Act.eval, k7, k8, k9, kA, Option.getD_some] at hm)) | (refine wlSC (hm := hm) (hi := by first | exact sizeStr | exact sizeByteI | exact sizeInt | exact sizeU64) (ho := by first | decide | (simp only [rowOf_size, idC_size]; omega) | (simp; done)) (h := ?_); clear hm; intro w1 hm; (try simp only [rowOf_set, k1, k2, k3, Value.cells, Act.eval, k7, k8, k9, kA, Option.getD_some] at hm)) | (refine wlA (hz := by first | exact zeroID | exact zeroLabel) (hm := hm) (h := ?_); clear hm; intro b1 w1 hm; (try simp only [rowOf_set, k1, k2, k3, Value.cells, Act.eval, k7, k8, k9, kA, Option.getD_some] at hm)) | (refine wl_box (by rfl) rfl (by first | exact idV_cells _ | exact labV_cells _ _ | exact rectV_cells _ _ _ _ | rfl) hm ?_; clear hm; intro b1 w1 hm) | (go_at_call 20; refine (hn _).mono ?_; rintro e w1 ⟨rfl, hx⟩; replace hm := hm.call hx; clear hx) | (with_reducible first | refine stBs ?_ | refine stMs ?_ | refine stAp ?_ | refine stCo ?_)); (try simp only [k4, k5, k6, Act.put, k1, k2, k3]))
        go_ret3
        exact ⟨by rw [← HR3.out] <;> rfl, hm.ext⟩
      | true =>
        have hrs := HR2.out
        rw [if_pos rfl] at hrs
        have HR3 := hid hrs
        clear hrs HR2
        go_wp2_with ((first | refine wpList_skip (by rfl) ?_ | (refine wlL (hm := hm) (hu := by first | exact undID | exact undLabel) (hi := by (try simp only [rowOf_size, idC_size]); first | exact sizeID | exact sizeLabel) (h := ?_); (try simp only [Act.put, k1, k2, k3]); (try simp only [← labV_eq, ← idV_eq])) | refine wlLC (hm := hm) (hu := by first | exact undStr | exact undByteI | exact undInt | exact undU64) (h := ?_) | (refine wlS (hm := hm) (hv := (by first | rfl | exact idV_eq _ | exact labV_eq _ _ | exact rectV_eq _ _ _ _)) (hi := by (try simp only [rowOf_size, idC_size]); first | exact sizeID | exact sizeLabel) (hs := by first | (simp only [rowOf_size, idC_size]; done) | rfl) (h1 := by first | rfl | exact idC_one _ | exact rowOf_one _ _ (fun _ _ => rfl) | (simp only [List.size_toArray, List.length_cons, List.all_toArray', List.all_cons, List.all_nil, Value.oneCell', Bool.and_true, Bool.and_self]; done) | (simp [Value.oneCell']; done)) (h := ?_); clear hm; intro w1 hm; (try simp only [rowOf_set, k1, k2, k3, Value.cells, Act.eval, k7, k8, k9, kA, Option.getD_some] at hm)) | (refine wlSC (hm := hm) (hi := by first | exact sizeStr | exact sizeByteI | exact sizeInt | exact sizeU64) (ho := by first | decide | (simp only [rowOf_size, idC_size]; omega) | (simp; done)) (h := ?_); clear hm; intro w1 hm; (try simp only [rowOf_set, k1, k2, k3, Value.cells, Act.eval, k7, k8, k9, kA, Option.getD_some] at hm)) | (refine wlA (hz := by first | exact zeroID | exact zeroLabel) (hm := hm) (h := ?_); clear hm; intro b1 w1 hm; (try simp only [rowOf_set, k1, k2, k3, Value.cells, Act.eval, k7, k8, k9, kA, Option.getD_some] at hm)) | (refine wl_box (by rfl) rfl (by first | exact idV_cells _ | exact labV_cells _ _ | exact rectV_cells _ _ _ _ | rfl) hm ?_; clear hm; intro b1 w1 hm) | (go_at_call 20; refine (hn _).mono ?_; rintro e w1 ⟨rfl, hx⟩; replace hm := hm.call hx; clear hx) | (with_reducible first | refine stBs ?_ | refine stMs ?_ | refine stAp ?_ | refine stCo ?_)); (try simp only [k4, k5, k6, Act.put, k1, k2, k3]))
        go_wp2_with (with_reducible first | refine stAl ?_ | refine stBo ?_ | refine stLo ?_ | refine stSo ?_ | refine stBu ?_ | refine stBs ?_ | refine stMs ?_ | refine stAp ?_ | refine stCo ?_); refine wp_quiet_mem (by kernel_rfl) (by kernel_rfl) hm ?_
        repeat ((first | refine wq_skip (by rfl) ?_ | (refine wqL (hu := by first | exact undID | exact undLabel) (hi := by (try simp only [rowOf_size, idC_size]); first | exact sizeID | exact sizeLabel) (h := ?_); (try simp only [Act.put, k1, k2, k3]); (try simp only [← labV_eq, ← idV_eq])) | refine wqLC (hu := by first | exact undStr | exact undByteI | exact undInt | exact undU64) (h := ?_) | ((with_reducible show wpQuiet _ _ _ _ (⟨_, .call _, _, _, _, _⟩ :: _) _); refine wq_ask (by rfl) ?_; apply Exists.intro; refine ⟨?_, ?_⟩; (focus (intro w hC; go_simp; first | (go_at_call 20; exact (hn _).mono fun e w' h => ⟨h.1, hC.call h.2⟩)))) | refine wqS (h := ?_)); (try simp only [k4, k5, k6, Act.put, k1, k2, k3]))
        refine wpQuiet_nil ?_; clear hm; intro w5 hm
        go_wp2_with ((first | refine wpList_skip (by rfl) ?_ | (refine wlL (hm := hm) (hu := by first | exact undID | exact undLabel) (hi := by (try simp only [rowOf_size, idC_size]); first | exact sizeID | exact sizeLabel) (h := ?_); (try simp only [Act.put, k1, k2, k3]); (try simp only [← labV_eq, ← idV_eq])) | refine wlLC (hm := hm) (hu := by first | exact undStr | exact undByteI | exact undInt | exact undU64) (h := ?_) | (refine wlS (hm := hm) (hv := (by first | rfl | exact idV_eq _ | exact labV_eq _ _ | exact rectV_eq _ _ _ _)) (hi := by (try simp only [rowOf_size, idC_size]); first | exact sizeID | exact sizeLabel) (hs := by first | (simp only [rowOf_size, idC_size]; done) | rfl) (h1 := by first | rfl | exact idC_one _ | exact rowOf_one _ _ (fun _ _ => rfl) | (simp only [List.size_toArray, List.length_cons, List.all_toArray', List.all_cons, List.all_nil, Value.oneCell', Bool.and_true, Bool.and_self]; done) | (simp [Value.oneCell']; done)) (h := ?_); clear hm; intro w1 hm; (try simp only [rowOf_set, k1, k2, k3, Value.cells, Act.eval, k7, k8, k9, kA, Option.getD_some] at hm)) | (refine wlSC (hm := hm) (hi := by first | exact sizeStr | exact sizeByteI | exact sizeInt | exact sizeU64) (ho := by first | decide | (simp only [rowOf_size, idC_size]; omega) | (simp; done)) (h := ?_); clear hm; intro w1 hm; (try simp only [rowOf_set, k1, k2, k3, Value.cells, Act.eval, k7, k8, k9, kA, Option.getD_some] at hm)) | (refine wlA (hz := by first | exact zeroID | exact zeroLabel) (hm := hm) (h := ?_); clear hm; intro b1 w1 hm; (try simp only [rowOf_set, k1, k2, k3, Value.cells, Act.eval, k7, k8, k9, kA, Option.getD_some] at hm)) | (refine wl_box (by rfl) rfl (by first | exact idV_cells _ | exact labV_cells _ _ | exact rectV_cells _ _ _ _ | rfl) hm ?_; clear hm; intro b1 w1 hm) | (go_at_call 20; refine (hn _).mono ?_; rintro e w1 ⟨rfl, hx⟩; replace hm := hm.call hx; clear hx) | (with_reducible first | refine stBs ?_ | refine stMs ?_ | refine stAp ?_ | refine stCo ?_)); (try simp only [k4, k5, k6, Act.put, k1, k2, k3]))
        go_ret3
        exact ⟨by rw [← HR3.out] <;> rfl, hm.ext⟩
theorem refNum_err (b : Nat) (s : ByteArray) (v k e : Int) (he : e ≠ 0) (hg : Says 54 #[.string s] (.tuple #[.int .u64 v, .int .i64 k, .int .i64 e])) : TakesR 28 #[.pointer (some ⟨b, 0, none⟩)] b s (.tuple #[.int .u64 0, .int .i64 e]) s := by
  intro w hw
  have he1 : (e != 0) = true := by simp [bne, he]
  go_enter Try.func28, Try.ntmps28
  have hm := Mem.start hw
  go_wp2_with ((first | refine wpList_skip (by rfl) ?_ | (refine wlL (hm := hm) (hu := by first | exact undID | exact undLabel) (hi := by (try simp only [rowOf_size, idC_size]); first | exact sizeID | exact sizeLabel) (h := ?_); (try simp only [Act.put, k1, k2, k3]); (try simp only [← labV_eq, ← idV_eq])) | refine wlLC (hm := hm) (hu := by first | exact undStr | exact undByteI | exact undInt | exact undU64) (h := ?_) | (refine wlS (hm := hm) (hv := (by first | rfl | exact idV_eq _ | exact labV_eq _ _ | exact rectV_eq _ _ _ _)) (hi := by (try simp only [rowOf_size, idC_size]); first | exact sizeID | exact sizeLabel) (hs := by first | (simp only [rowOf_size, idC_size]; done) | rfl) (h1 := by first | rfl | exact idC_one _ | exact rowOf_one _ _ (fun _ _ => rfl) | (simp only [List.size_toArray, List.length_cons, List.all_toArray', List.all_cons, List.all_nil, Value.oneCell', Bool.and_true, Bool.and_self]; done) | (simp [Value.oneCell']; done)) (h := ?_); clear hm; intro w1 hm; (try simp only [rowOf_set, k1, k2, k3, Value.cells, Act.eval, k7, k8, k9, kA, Option.getD_some] at hm)) | (refine wlSC (hm := hm) (hi := by first | exact sizeStr | exact sizeByteI | exact sizeInt | exact sizeU64) (ho := by first | decide | (simp only [rowOf_size, idC_size]; omega) | (simp; done)) (h := ?_); clear hm; intro w1 hm; (try simp only [rowOf_set, k1, k2, k3, Value.cells, Act.eval, k7, k8, k9, kA, Option.getD_some] at hm)) | (refine wlA (hz := by first | exact zeroID | exact zeroLabel) (hm := hm) (h := ?_); clear hm; intro b1 w1 hm; (try simp only [rowOf_set, k1, k2, k3, Value.cells, Act.eval, k7, k8, k9, kA, Option.getD_some] at hm)) | (refine wl_box (by rfl) rfl (by first | exact idV_cells _ | exact labV_cells _ _ | exact rectV_cells _ _ _ _ | rfl) hm ?_; clear hm; intro b1 w1 hm) | (go_at_call 54; refine (hg _).mono ?_; rintro e w1 ⟨rfl, hx⟩; replace hm := hm.call hx; clear hx) | (with_reducible first | refine stBs ?_ | refine stMs ?_ | refine stAp ?_ | refine stCo ?_)); (try simp only [k4, k5, k6, Act.put, k1, k2, k3]))
  go_ret2
  exact ⟨rfl, hm⟩
theorem refNum_ok (b : Nat) (s r : ByteArray) (v : Int) (k m : Nat) (hs : s.size = m) (hk : k ≤ m) (hr : s.extract k s.size = r) (hg : Says 54 #[.string s] (.tuple #[.int .u64 v, .int .i64 (k : Int), .int .i64 0])) : TakesR 28 #[.pointer (some ⟨b, 0, none⟩)] b s (.tuple #[.int .u64 v, .int .i64 0]) r := by
  intro w hw
  have c1 := slice_from (s := s) (t := r) (n := k) (by omega) hr
  clear hr hk
  go_enter Try.func28, Try.ntmps28
  have hm := Mem.start hw
  go_wp2_with ((first | refine wpList_skip (by rfl) ?_ | (refine wlL (hm := hm) (hu := by first | exact undID | exact undLabel) (hi := by (try simp only [rowOf_size, idC_size]); first | exact sizeID | exact sizeLabel) (h := ?_); (try simp only [Act.put, k1, k2, k3]); (try simp only [← labV_eq, ← idV_eq])) | refine wlLC (hm := hm) (hu := by first | exact undStr | exact undByteI | exact undInt | exact undU64) (h := ?_) | (refine wlS (hm := hm) (hv := (by first | rfl | exact idV_eq _ | exact labV_eq _ _ | exact rectV_eq _ _ _ _)) (hi := by (try simp only [rowOf_size, idC_size]); first | exact sizeID | exact sizeLabel) (hs := by first | (simp only [rowOf_size, idC_size]; done) | rfl) (h1 := by first | rfl | exact idC_one _ | exact rowOf_one _ _ (fun _ _ => rfl) | (simp only [List.size_toArray, List.length_cons, List.all_toArray', List.all_cons, List.all_nil, Value.oneCell', Bool.and_true, Bool.and_self]; done) | (simp [Value.oneCell']; done)) (h := ?_); clear hm; intro w1 hm; (try simp only [rowOf_set, k1, k2, k3, Value.cells, Act.eval, k7, k8, k9, kA, Option.getD_some] at hm)) | (refine wlSC (hm := hm) (hi := by first | exact sizeStr | exact sizeByteI | exact sizeInt | exact sizeU64) (ho := by first | decide | (simp only [rowOf_size, idC_size]; omega) | (simp; done)) (h := ?_); clear hm; intro w1 hm; (try simp only [rowOf_set, k1, k2, k3, Value.cells, Act.eval, k7, k8, k9, kA, Option.getD_some] at hm)) | (refine wlA (hz := by first | exact zeroID | exact zeroLabel) (hm := hm) (h := ?_); clear hm; intro b1 w1 hm; (try simp only [rowOf_set, k1, k2, k3, Value.cells, Act.eval, k7, k8, k9, kA, Option.getD_some] at hm)) | (refine wl_box (by rfl) rfl (by first | exact idV_cells _ | exact labV_cells _ _ | exact rectV_cells _ _ _ _ | rfl) hm ?_; clear hm; intro b1 w1 hm) | (go_at_call 54; refine (hg _).mono ?_; rintro e w1 ⟨rfl, hx⟩; replace hm := hm.call hx; clear hx) | (with_reducible first | refine stBs ?_ | refine stMs ?_ | refine stAp ?_ | refine stCo ?_)); (try simp only [k4, k5, k6, Act.put, k1, k2, k3]))
  go_ret2
  exact ⟨rfl, hm⟩
theorem refTxt_err (b : Nat) (s : ByteArray) (v k e : Int) (he : e ≠ 0) (hg : Says 54 #[.string s] (.tuple #[.int .u64 v, .int .i64 k, .int .i64 e])) : TakesR 29 #[.pointer (some ⟨b, 0, none⟩)] b s (.tuple #[.string { data := #[] }, .int .i64 e]) s := by
  intro w hw
  have he1 : (e != 0) = true := by simp [bne, he]
  go_enter Try.func29, Try.ntmps29
  have hm := Mem.start hw
  go_wp2_with ((first | refine wpList_skip (by rfl) ?_ | (refine wlL (hm := hm) (hu := by first | exact undID | exact undLabel) (hi := by (try simp only [rowOf_size, idC_size]); first | exact sizeID | exact sizeLabel) (h := ?_); (try simp only [Act.put, k1, k2, k3]); (try simp only [← labV_eq, ← idV_eq])) | refine wlLC (hm := hm) (hu := by first | exact undStr | exact undByteI | exact undInt | exact undU64) (h := ?_) | (refine wlS (hm := hm) (hv := (by first | rfl | exact idV_eq _ | exact labV_eq _ _ | exact rectV_eq _ _ _ _)) (hi := by (try simp only [rowOf_size, idC_size]); first | exact sizeID | exact sizeLabel) (hs := by first | (simp only [rowOf_size, idC_size]; done) | rfl) (h1 := by first | rfl | exact idC_one _ | exact rowOf_one _ _ (fun _ _ => rfl) | (simp only [List.size_toArray, List.length_cons, List.all_toArray', List.all_cons, List.all_nil, Value.oneCell', Bool.and_true, Bool.and_self]; done) | (simp [Value.oneCell']; done)) (h := ?_); clear hm; intro w1 hm; (try simp only [rowOf_set, k1, k2, k3, Value.cells, Act.eval, k7, k8, k9, kA, Option.getD_some] at hm)) | (refine wlSC (hm := hm) (hi := by first | exact sizeStr | exact sizeByteI | exact sizeInt | exact sizeU64) (ho := by first | decide | (simp only [rowOf_size, idC_size]; omega) | (simp; done)) (h := ?_); clear hm; intro w1 hm; (try simp only [rowOf_set, k1, k2, k3, Value.cells, Act.eval, k7, k8, k9, kA, Option.getD_some] at hm)) | (refine wlA (hz := by first | exact zeroID | exact zeroLabel) (hm := hm) (h := ?_); clear hm; intro b1 w1 hm; (try simp only [rowOf_set, k1, k2, k3, Value.cells, Act.eval, k7, k8, k9, kA, Option.getD_some] at hm)) | (refine wl_box (by rfl) rfl (by first | exact idV_cells _ | exact labV_cells _ _ | exact rectV_cells _ _ _ _ | rfl) hm ?_; clear hm; intro b1 w1 hm) | (go_at_call 54; refine (hg _).mono ?_; rintro e w1 ⟨rfl, hx⟩; replace hm := hm.call hx; clear hx) | (with_reducible first | refine stBs ?_ | refine stMs ?_ | refine stAp ?_ | refine stCo ?_)); (try simp only [k4, k5, k6, Act.put, k1, k2, k3]))
  go_ret2
  exact ⟨rfl, hm⟩
theorem refTxt_form (b : Nat) (s : ByteArray) (v : Nat) (k : Int) (hv : 4096 < v) (hg : Says 54 #[.string s] (.tuple #[.int .u64 (v : Int), .int .i64 k, .int .i64 0])) : TakesR 29 #[.pointer (some ⟨b, 0, none⟩)] b s (.tuple #[.string { data := #[] }, .int .i64 3]) s := by
  intro w hw
  go_enter Try.func29, Try.ntmps29
  have hm := Mem.start hw
  go_wp2_with ((first | refine wpList_skip (by rfl) ?_ | (refine wlL (hm := hm) (hu := by first | exact undID | exact undLabel) (hi := by (try simp only [rowOf_size, idC_size]); first | exact sizeID | exact sizeLabel) (h := ?_); (try simp only [Act.put, k1, k2, k3]); (try simp only [← labV_eq, ← idV_eq])) | refine wlLC (hm := hm) (hu := by first | exact undStr | exact undByteI | exact undInt | exact undU64) (h := ?_) | (refine wlS (hm := hm) (hv := (by first | rfl | exact idV_eq _ | exact labV_eq _ _ | exact rectV_eq _ _ _ _)) (hi := by (try simp only [rowOf_size, idC_size]); first | exact sizeID | exact sizeLabel) (hs := by first | (simp only [rowOf_size, idC_size]; done) | rfl) (h1 := by first | rfl | exact idC_one _ | exact rowOf_one _ _ (fun _ _ => rfl) | (simp only [List.size_toArray, List.length_cons, List.all_toArray', List.all_cons, List.all_nil, Value.oneCell', Bool.and_true, Bool.and_self]; done) | (simp [Value.oneCell']; done)) (h := ?_); clear hm; intro w1 hm; (try simp only [rowOf_set, k1, k2, k3, Value.cells, Act.eval, k7, k8, k9, kA, Option.getD_some] at hm)) | (refine wlSC (hm := hm) (hi := by first | exact sizeStr | exact sizeByteI | exact sizeInt | exact sizeU64) (ho := by first | decide | (simp only [rowOf_size, idC_size]; omega) | (simp; done)) (h := ?_); clear hm; intro w1 hm; (try simp only [rowOf_set, k1, k2, k3, Value.cells, Act.eval, k7, k8, k9, kA, Option.getD_some] at hm)) | (refine wlA (hz := by first | exact zeroID | exact zeroLabel) (hm := hm) (h := ?_); clear hm; intro b1 w1 hm; (try simp only [rowOf_set, k1, k2, k3, Value.cells, Act.eval, k7, k8, k9, kA, Option.getD_some] at hm)) | (refine wl_box (by rfl) rfl (by first | exact idV_cells _ | exact labV_cells _ _ | exact rectV_cells _ _ _ _ | rfl) hm ?_; clear hm; intro b1 w1 hm) | (go_at_call 54; refine (hg _).mono ?_; rintro e w1 ⟨rfl, hx⟩; replace hm := hm.call hx; clear hx) | (with_reducible first | refine stBs ?_ | refine stMs ?_ | refine stAp ?_ | refine stCo ?_)); (try simp only [k4, k5, k6, Act.put, k1, k2, k3]))
  go_ret2
  exact ⟨rfl, hm⟩
theorem refTxt_cut (b : Nat) (s : ByteArray) (v k m : Nat) (hv : ¬ 4096 < v) (hs : s.size = m) (hm6 : m < 2 ^ 61) (hk : k ≤ m) (hlt : m - k < v) (hg : Says 54 #[.string s] (.tuple #[.int .u64 (v : Int), .int .i64 (k : Int), .int .i64 0])) : TakesR 29 #[.pointer (some ⟨b, 0, none⟩)] b s (.tuple #[.string { data := #[] }, .int .i64 4]) s := by
  intro w hw
  obtain ⟨d, hd⟩ : ∃ d, m - k = d := ⟨_, rfl⟩
  have f1 : IntKind.i64.wrap ((m : Int) - (k : Int)) = (d : Int) := by rw [wrap_i64 (by omega) (by omega)]; omega
  have f2 : IntKind.i64.wrap (v : Int) = (v : Int) := wrap_i64 (by omega) (by omega)
  rw [hd] at hlt
  clear hd hk hm6
  go_enter Try.func29, Try.ntmps29
  have hm := Mem.start hw
  go_wp2_with ((first | refine wpList_skip (by rfl) ?_ | (refine wlL (hm := hm) (hu := by first | exact undID | exact undLabel) (hi := by (try simp only [rowOf_size, idC_size]); first | exact sizeID | exact sizeLabel) (h := ?_); (try simp only [Act.put, k1, k2, k3]); (try simp only [← labV_eq, ← idV_eq])) | refine wlLC (hm := hm) (hu := by first | exact undStr | exact undByteI | exact undInt | exact undU64) (h := ?_) | (refine wlS (hm := hm) (hv := (by first | rfl | exact idV_eq _ | exact labV_eq _ _ | exact rectV_eq _ _ _ _)) (hi := by (try simp only [rowOf_size, idC_size]); first | exact sizeID | exact sizeLabel) (hs := by first | (simp only [rowOf_size, idC_size]; done) | rfl) (h1 := by first | rfl | exact idC_one _ | exact rowOf_one _ _ (fun _ _ => rfl) | (simp only [List.size_toArray, List.length_cons, List.all_toArray', List.all_cons, List.all_nil, Value.oneCell', Bool.and_true, Bool.and_self]; done) | (simp [Value.oneCell']; done)) (h := ?_); clear hm; intro w1 hm; (try simp only [rowOf_set, k1, k2, k3, Value.cells, Act.eval, k7, k8, k9, kA, Option.getD_some] at hm)) | (refine wlSC (hm := hm) (hi := by first | exact sizeStr | exact sizeByteI | exact sizeInt | exact sizeU64) (ho := by first | decide | (simp only [rowOf_size, idC_size]; omega) | (simp; done)) (h := ?_); clear hm; intro w1 hm; (try simp only [rowOf_set, k1, k2, k3, Value.cells, Act.eval, k7, k8, k9, kA, Option.getD_some] at hm)) | (refine wlA (hz := by first | exact zeroID | exact zeroLabel) (hm := hm) (h := ?_); clear hm; intro b1 w1 hm; (try simp only [rowOf_set, k1, k2, k3, Value.cells, Act.eval, k7, k8, k9, kA, Option.getD_some] at hm)) | (refine wl_box (by rfl) rfl (by first | exact idV_cells _ | exact labV_cells _ _ | exact rectV_cells _ _ _ _ | rfl) hm ?_; clear hm; intro b1 w1 hm) | (go_at_call 54; refine (hg _).mono ?_; rintro e w1 ⟨rfl, hx⟩; replace hm := hm.call hx; clear hx) | (with_reducible first | refine stBs ?_ | refine stMs ?_ | refine stAp ?_ | refine stCo ?_)); (try simp only [k4, k5, k6, Act.put, k1, k2, k3]))
  go_ret2
  exact ⟨rfl, hm⟩
theorem refTxt_ok (b : Nat) (s t r : ByteArray) (v k m : Nat) (hv : ¬ 4096 < v) (hs : s.size = m) (hm6 : m < 2 ^ 61) (hk : k + v ≤ m) (hr : s.extract (k + v) s.size = r) (ht : s.extract k (k + v) = t) (hg : Says 54 #[.string s] (.tuple #[.int .u64 (v : Int), .int .i64 (k : Int), .int .i64 0])) : TakesR 29 #[.pointer (some ⟨b, 0, none⟩)] b s (.tuple #[.string t, .int .i64 0]) r := by
  intro w hw
  have c1 := slice_from (s := s) (t := r) (n := k + v) (by omega) hr
  have c2 : ∀ w, (Instr.slice 9 (.string s) (some (.int .i64 (k : Int))) (some (.int .i64 ((k + v : Nat) : Int))) none).run Try.prog w = .ok (.string t) w := fun w => by
    rw [run_slice_string_if (h := undS), if_pos ⟨by omega, by omega⟩, if_pos ⟨by omega, by omega⟩, Int.toNat_natCast, Int.toNat_natCast, ht]
  obtain ⟨d, hd⟩ : ∃ d, m - k = d := ⟨_, rfl⟩
  obtain ⟨kv, hkv⟩ : ∃ x, k + v = x := ⟨_, rfl⟩
  have f1 : IntKind.i64.wrap ((m : Int) - (k : Int)) = (d : Int) := by rw [wrap_i64 (by omega) (by omega)]; omega
  have f2 : IntKind.i64.wrap (v : Int) = (v : Int) := wrap_i64 (by omega) (by omega)
  have f3 : IntKind.i64.wrap ((k : Int) + (v : Int)) = (kv : Int) := by rw [wrap_i64 (by omega) (by omega)]; omega
  have hlt : ¬ d < v := by omega
  rw [hkv] at c1 c2
  clear hd hk hm6 hkv hr ht
  go_enter Try.func29, Try.ntmps29
  have hm := Mem.start hw
  go_wp2_with ((first | refine wpList_skip (by rfl) ?_ | (refine wlL (hm := hm) (hu := by first | exact undID | exact undLabel) (hi := by (try simp only [rowOf_size, idC_size]); first | exact sizeID | exact sizeLabel) (h := ?_); (try simp only [Act.put, k1, k2, k3]); (try simp only [← labV_eq, ← idV_eq])) | refine wlLC (hm := hm) (hu := by first | exact undStr | exact undByteI | exact undInt | exact undU64) (h := ?_) | (refine wlS (hm := hm) (hv := (by first | rfl | exact idV_eq _ | exact labV_eq _ _ | exact rectV_eq _ _ _ _)) (hi := by (try simp only [rowOf_size, idC_size]); first | exact sizeID | exact sizeLabel) (hs := by first | (simp only [rowOf_size, idC_size]; done) | rfl) (h1 := by first | rfl | exact idC_one _ | exact rowOf_one _ _ (fun _ _ => rfl) | (simp only [List.size_toArray, List.length_cons, List.all_toArray', List.all_cons, List.all_nil, Value.oneCell', Bool.and_true, Bool.and_self]; done) | (simp [Value.oneCell']; done)) (h := ?_); clear hm; intro w1 hm; (try simp only [rowOf_set, k1, k2, k3, Value.cells, Act.eval, k7, k8, k9, kA, Option.getD_some] at hm)) | (refine wlSC (hm := hm) (hi := by first | exact sizeStr | exact sizeByteI | exact sizeInt | exact sizeU64) (ho := by first | decide | (simp only [rowOf_size, idC_size]; omega) | (simp; done)) (h := ?_); clear hm; intro w1 hm; (try simp only [rowOf_set, k1, k2, k3, Value.cells, Act.eval, k7, k8, k9, kA, Option.getD_some] at hm)) | (refine wlA (hz := by first | exact zeroID | exact zeroLabel) (hm := hm) (h := ?_); clear hm; intro b1 w1 hm; (try simp only [rowOf_set, k1, k2, k3, Value.cells, Act.eval, k7, k8, k9, kA, Option.getD_some] at hm)) | (refine wl_box (by rfl) rfl (by first | exact idV_cells _ | exact labV_cells _ _ | exact rectV_cells _ _ _ _ | rfl) hm ?_; clear hm; intro b1 w1 hm) | (go_at_call 54; refine (hg _).mono ?_; rintro e w1 ⟨rfl, hx⟩; replace hm := hm.call hx; clear hx) | (with_reducible first | refine stBs ?_ | refine stMs ?_ | refine stAp ?_ | refine stCo ?_)); (try simp only [k4, k5, k6, Act.put, k1, k2, k3]))
  go_ret2
  exact ⟨rfl, hm⟩
end Go.Proofs.Ytijkmbebfodhdaa

/- (WirK)
  Wire: the document's reader: a place, a label.
-/
namespace Go.Proofs.Ytijkmbebfodhdaa
open Go.RowKit
set_option linter.unusedSimpArgs false
set_option linter.unusedVariables false
set_option maxHeartbeats 1000000
set_option maxRecDepth 20000
attribute [local irreducible] wpQuiet wpList wpAnyH Calls

theorem refPl_err (b : Nat) (s : ByteArray) (m : Nat) (hs : s.size = m) (h : m < 20) : TakesR 31 #[.pointer (some ⟨b, 0, none⟩)] b s (.tuple #[idV 0, .int .i64 4]) s := by
  intro w hw
  rw [idV_zero]
  go_enter Try.func31, Try.ntmps31
  have hm := Mem.start hw
  go_wp2_with ((first | refine wpList_skip (by rfl) ?_ | (refine wlL (hm := hm) (hu := by first | exact undID | exact undLabel) (hi := by (try simp only [rowOf_size, idC_size]); first | exact sizeID | exact sizeLabel) (h := ?_); (try simp only [Act.put, k1, k2, k3]); (try simp only [← labV_eq, ← idV_eq])) | refine wlLC (hm := hm) (hu := by first | exact undStr | exact undByteI | exact undInt | exact undU64) (h := ?_) | (refine wlS (hm := hm) (hv := (by first | rfl | exact idV_eq _ | exact labV_eq _ _ | exact rectV_eq _ _ _ _)) (hi := by (try simp only [rowOf_size, idC_size]); first | exact sizeID | exact sizeLabel) (hs := by first | (simp only [rowOf_size, idC_size]; done) | rfl) (h1 := by first | rfl | exact idC_one _ | exact rowOf_one _ _ (fun _ _ => rfl) | (simp only [List.size_toArray, List.length_cons, List.all_toArray', List.all_cons, List.all_nil, Value.oneCell', Bool.and_true, Bool.and_self]; done) | (simp [Value.oneCell']; done)) (h := ?_); clear hm; intro w1 hm; (try simp only [rowOf_set, k1, k2, k3, Value.cells, Act.eval, k7, k8, k9, kA, Option.getD_some] at hm)) | (refine wlSC (hm := hm) (hi := by first | exact sizeStr | exact sizeByteI | exact sizeInt | exact sizeU64) (ho := by first | decide | (simp only [rowOf_size, idC_size]; omega) | (simp; done)) (h := ?_); clear hm; intro w1 hm; (try simp only [rowOf_set, k1, k2, k3, Value.cells, Act.eval, k7, k8, k9, kA, Option.getD_some] at hm)) | (refine wlA (hz := by first | exact zeroID | exact zeroLabel) (hm := hm) (h := ?_); clear hm; intro b1 w1 hm; (try simp only [rowOf_set, k1, k2, k3, Value.cells, Act.eval, k7, k8, k9, kA, Option.getD_some] at hm)) | (refine wl_box (by rfl) rfl (by first | exact idV_cells _ | exact labV_cells _ _ | exact rectV_cells _ _ _ _ | rfl) hm ?_; clear hm; intro b1 w1 hm) | (refine wl_build (by rfl) (built_zeroL) rfl ?_; (try simp only [Act.put, k1, k2, k3]); (try simp only [← labV_eq, ← idV_eq])) | (refine wl_build (by rfl) (built_lab1 _) rfl ?_; (try simp only [Act.put, k1, k2, k3]); (try simp only [← labV_eq, ← idV_eq])) | (go_at_call 16; refine (hi _).mono ?_; rintro e w1 ⟨rfl, hx⟩; replace hm := hm.call hx; clear hx) | (with_reducible first | refine stBs ?_ | refine stMs ?_ | refine stAp ?_ | refine stCo ?_)); (try simp only [k4, k5, k6, Act.put, k1, k2, k3]))
  refine bodyPost_ret (results_row_tmp (h := rfl) _ _ _ _ _ _ _ rfl (hm.heap (i := 1) rfl) undID rfl (by first | exact sizeID | (simp only [rowOf_size, idC_size]; exact sizeID))) rfl ?_
  exact ⟨rfl, hm.tail.tail⟩
theorem refPl_ok (b a : Nat) (s r : ByteArray) (m : Nat) (hs : s.size = m) (h : 20 ≤ m) (hr : s.extract 20 s.size = r)
    (hI : ∀ k : Nat, k < 20 → ∀ w, (Instr.index 9 (.string s) (.int .i64 (k : Int))).run Try.prog w = .ok (.int .u8 ((dig a k : Nat) : Int)) w) :
    TakesR 31 #[.pointer (some ⟨b, 0, none⟩)] b s (.tuple #[idV a, .int .i64 0]) r := by
  intro w hw
  have c1 := slice_from (s := s) (t := r) (n := 20) (by omega) hr
  have c2 : ∀ w, (Instr.slice 9 (.string s) (some (.int .i64 20)) none none).run Try.prog w = .ok (.string r) w := c1
  have HI := hid hI
  have h20 : ¬ m < 20 := by omega
  clear hI hr h c1
  go_enter Try.func31, Try.ntmps31
  have hm := Mem.start hw
  clear hw
  go_wp2_with (with_reducible first | refine stAl ?_ | refine stBo ?_ | refine stLo ?_ | refine stSo ?_ | refine stBu ?_ | refine stBs ?_ | refine stMs ?_ | refine stAp ?_ | refine stCo ?_); refine Stop.go (wl_alloc (by rfl) zeroID rfl hm ?_); clear hm; intro b2 w2 hm; simp only [Act.put, k1, k2, k3]; (try simp only [rowOf_set, k1, k2, k3, Value.cells, Act.eval, k7, k8, k9, kA, Option.getD_some] at hm)
  go_wp2_with (with_reducible first | refine stAl ?_ | refine stBo ?_ | refine stLo ?_ | refine stSo ?_ | refine stBu ?_ | refine stBs ?_ | refine stMs ?_ | refine stAp ?_ | refine stCo ?_); refine Stop.go (wl_alloc (by rfl) zeroID rfl hm ?_); clear hm; intro b3 w3 hm; simp only [Act.put, k1, k2, k3]; (try simp only [rowOf_set, k1, k2, k3, Value.cells, Act.eval, k7, k8, k9, kA, Option.getD_some] at hm)
  go_wp2_with ((first | refine wpList_skip (by rfl) ?_ | (refine wlL (hm := hm) (hu := by first | exact undID | exact undLabel) (hi := by (try simp only [rowOf_size, idC_size]); first | exact sizeID | exact sizeLabel) (h := ?_); (try simp only [Act.put, k1, k2, k3]); (try simp only [← labV_eq, ← idV_eq])) | refine wlLC (hm := hm) (hu := by first | exact undStr | exact undByteI | exact undInt | exact undU64) (h := ?_) | (refine wlS (hm := hm) (hv := (by first | rfl | exact idV_eq _ | exact labV_eq _ _ | exact rectV_eq _ _ _ _)) (hi := by (try simp only [rowOf_size, idC_size]); first | exact sizeID | exact sizeLabel) (hs := by first | (simp only [rowOf_size, idC_size]; done) | rfl) (h1 := by first | rfl | exact idC_one _ | exact rowOf_one _ _ (fun _ _ => rfl) | (simp only [List.size_toArray, List.length_cons, List.all_toArray', List.all_cons, List.all_nil, Value.oneCell', Bool.and_true, Bool.and_self]; done) | (simp [Value.oneCell']; done)) (h := ?_); clear hm; intro w1 hm; (try simp only [rowOf_set, k1, k2, k3, Value.cells, Act.eval, k7, k8, k9, kA, Option.getD_some] at hm)) | (refine wlSC (hm := hm) (hi := by first | exact sizeStr | exact sizeByteI | exact sizeInt | exact sizeU64) (ho := by first | decide | (simp only [rowOf_size, idC_size]; omega) | (simp; done)) (h := ?_); clear hm; intro w1 hm; (try simp only [rowOf_set, k1, k2, k3, Value.cells, Act.eval, k7, k8, k9, kA, Option.getD_some] at hm)) | (refine wlA (hz := by first | exact zeroID | exact zeroLabel) (hm := hm) (h := ?_); clear hm; intro b1 w1 hm; (try simp only [rowOf_set, k1, k2, k3, Value.cells, Act.eval, k7, k8, k9, kA, Option.getD_some] at hm)) | (refine wl_box (by rfl) rfl (by first | exact idV_cells _ | exact labV_cells _ _ | exact rectV_cells _ _ _ _ | rfl) hm ?_; clear hm; intro b1 w1 hm) | (refine wl_build (by rfl) (built_zeroL) rfl ?_; (try simp only [Act.put, k1, k2, k3]); (try simp only [← labV_eq, ← idV_eq])) | (refine wl_build (by rfl) (built_lab1 _) rfl ?_; (try simp only [Act.put, k1, k2, k3]); (try simp only [← labV_eq, ← idV_eq])) | (go_at_call 16; refine (hi _).mono ?_; rintro e w1 ⟨rfl, hx⟩; replace hm := hm.call hx; clear hx) | (with_reducible first | refine stBs ?_ | refine stMs ?_ | refine stAp ?_ | refine stCo ?_)); (try simp only [k4, k5, k6, Act.put, k1, k2, k3]))
  go_loopw [5] (fun vi wr => ∃ (i : Nat) (cur : Array Value), i ≤ 20 ∧ vi = .int .i64 (i : Int) ∧ cur.size = 20 ∧ Hid (∀ j, j < i → cur[j]? = some (.int .u8 ((dig a j : Nat) : Int))) ∧ Mem w [b] [(b3, .cells cur 24 (0, 0)), (b2, .cells (rowOf 20 fun _ => .int .u8 0) 24 (0, 0)), (b, .cells #[.string s] 52 (0, 0))] wr)
    (fun vi _ => (20 - intOf vi).toNat)
  case atStart => exact ⟨0, _, by omega, rfl, rowOf_size _ _, hid (fun j hj => by omega), hm⟩
  case round =>
    clear hm
    obtain ⟨i, cur, hi, rfl, hcs, HC, hm⟩ := hrel
    by_cases hi20 : i < 20
    · have hix := HI.out i hi20
      have e1 : (i : Int) < 20 := by omega
      have e2 : (0 : Int) ≤ (i : Int) := by omega
      have g1 : IntKind.i64.wrap ((i : Int) + 1) = (i : Int) + 1 := wrap_i64 (by omega) (by omega)
      have HN := hid (show ∀ j, j < i + 1 → (cur.setIfInBounds i (.int .u8 ((dig a i : Nat) : Int)))[j]? = some (.int .u8 ((dig a j : Nat) : Int)) from fun j hj => by
        by_cases hji : j = i
        · subst hji
          rw [Array.getElem?_setIfInBounds_self_of_lt (by omega)]
        · rw [Array.getElem?_setIfInBounds_ne (by omega)]
          exact HC.out j (by omega))
      obtain ⟨y, hy⟩ : ∃ y, dig a i = y := ⟨_, rfl⟩
      rw [hy] at hix HN
      have HCS := hid (show (cur.setIfInBounds i (.int .u8 (y : Int))).size = 20 from by rw [Array.size_setIfInBounds]; exact hcs)
      clear hy HC hi
      go_wp2_with (with_reducible first | refine stAl ?_ | refine stBo ?_ | refine stLo ?_ | refine stSo ?_ | refine stBu ?_ | refine stBs ?_ | refine stMs ?_ | refine stAp ?_ | refine stCo ?_); refine Stop.go (wl_loadCell (i := 2) (by rfl) hm rfl rfl (rfl) undStr rfl ?_); simp only [Act.put, k1, k2, k3]
      go_wp2_with (with_reducible first | refine stAl ?_ | refine stBo ?_ | refine stLo ?_ | refine stSo ?_ | refine stBu ?_ | refine stBs ?_ | refine stMs ?_ | refine stAp ?_ | refine stCo ?_)
      refine Stop.go (wl_storeCell (i := 0) (by rfl) hm rfl rfl rfl rfl sizeByteI (by omega) ?_)
      clear hm; intro w5 hm; simp only [Act.put, k1, k2, k3]; rw [k2] at hm
      clear hcs hi20
      go_wp2_with ((first | refine wpList_skip (by rfl) ?_ | (refine wlL (hm := hm) (hu := by first | exact undID | exact undLabel) (hi := by (try simp only [rowOf_size, idC_size]); first | exact sizeID | exact sizeLabel) (h := ?_); (try simp only [Act.put, k1, k2, k3]); (try simp only [← labV_eq, ← idV_eq])) | refine wlLC (hm := hm) (hu := by first | exact undStr | exact undByteI | exact undInt | exact undU64) (h := ?_) | (refine wlS (hm := hm) (hv := (by first | rfl | exact idV_eq _ | exact labV_eq _ _ | exact rectV_eq _ _ _ _)) (hi := by (try simp only [rowOf_size, idC_size]); first | exact sizeID | exact sizeLabel) (hs := by first | (simp only [rowOf_size, idC_size]; done) | rfl) (h1 := by first | rfl | exact idC_one _ | exact rowOf_one _ _ (fun _ _ => rfl) | (simp only [List.size_toArray, List.length_cons, List.all_toArray', List.all_cons, List.all_nil, Value.oneCell', Bool.and_true, Bool.and_self]; done) | (simp [Value.oneCell']; done)) (h := ?_); clear hm; intro w1 hm; (try simp only [rowOf_set, k1, k2, k3, Value.cells, Act.eval, k7, k8, k9, kA, Option.getD_some] at hm)) | (refine wlSC (hm := hm) (hi := by first | exact sizeStr | exact sizeByteI | exact sizeInt | exact sizeU64) (ho := by first | decide | (simp only [rowOf_size, idC_size]; omega) | (simp; done)) (h := ?_); clear hm; intro w1 hm; (try simp only [rowOf_set, k1, k2, k3, Value.cells, Act.eval, k7, k8, k9, kA, Option.getD_some] at hm)) | (refine wlA (hz := by first | exact zeroID | exact zeroLabel) (hm := hm) (h := ?_); clear hm; intro b1 w1 hm; (try simp only [rowOf_set, k1, k2, k3, Value.cells, Act.eval, k7, k8, k9, kA, Option.getD_some] at hm)) | (refine wl_box (by rfl) rfl (by first | exact idV_cells _ | exact labV_cells _ _ | exact rectV_cells _ _ _ _ | rfl) hm ?_; clear hm; intro b1 w1 hm) | (refine wl_build (by rfl) (built_zeroL) rfl ?_; (try simp only [Act.put, k1, k2, k3]); (try simp only [← labV_eq, ← idV_eq])) | (refine wl_build (by rfl) (built_lab1 _) rfl ?_; (try simp only [Act.put, k1, k2, k3]); (try simp only [← labV_eq, ← idV_eq])) | (go_at_call 16; refine (hi _).mono ?_; rintro e w1 ⟨rfl, hx⟩; replace hm := hm.call hx; clear hx) | (with_reducible first | refine stBs ?_ | refine stMs ?_ | refine stAp ?_ | refine stCo ?_)); (try simp only [k4, k5, k6, Act.put, k1, k2, k3]))
      go_roundw
      case rel => exact ⟨i + 1, _, by omega, by go_num, HCS.out, HN, hm⟩
      case measure => (simp [intOf]; try omega)
    · obtain rfl : i = 20 := by omega
      have hcur : cur = idC a := by
        apply Array.ext_getElem?
        intro j
        by_cases hj : j < 20
        · rw [HC.out j hj, idC, rowOf_get _ _ j hj]
        · rw [Array.getElem?_eq_none (by omega), Array.getElem?_eq_none (by rw [idC_size]; omega)]
      subst hcur
      clear hi hcs HC hi20
      go_wp2_with ((first | refine wpList_skip (by rfl) ?_ | (refine wlL (hm := hm) (hu := by first | exact undID | exact undLabel) (hi := by (try simp only [rowOf_size, idC_size]); first | exact sizeID | exact sizeLabel) (h := ?_); (try simp only [Act.put, k1, k2, k3]); (try simp only [← labV_eq, ← idV_eq])) | refine wlLC (hm := hm) (hu := by first | exact undStr | exact undByteI | exact undInt | exact undU64) (h := ?_) | (refine wlS (hm := hm) (hv := (by first | rfl | exact idV_eq _ | exact labV_eq _ _ | exact rectV_eq _ _ _ _)) (hi := by (try simp only [rowOf_size, idC_size]); first | exact sizeID | exact sizeLabel) (hs := by first | (simp only [rowOf_size, idC_size]; done) | rfl) (h1 := by first | rfl | exact idC_one _ | exact rowOf_one _ _ (fun _ _ => rfl) | (simp only [List.size_toArray, List.length_cons, List.all_toArray', List.all_cons, List.all_nil, Value.oneCell', Bool.and_true, Bool.and_self]; done) | (simp [Value.oneCell']; done)) (h := ?_); clear hm; intro w1 hm; (try simp only [rowOf_set, k1, k2, k3, Value.cells, Act.eval, k7, k8, k9, kA, Option.getD_some] at hm)) | (refine wlSC (hm := hm) (hi := by first | exact sizeStr | exact sizeByteI | exact sizeInt | exact sizeU64) (ho := by first | decide | (simp only [rowOf_size, idC_size]; omega) | (simp; done)) (h := ?_); clear hm; intro w1 hm; (try simp only [rowOf_set, k1, k2, k3, Value.cells, Act.eval, k7, k8, k9, kA, Option.getD_some] at hm)) | (refine wlA (hz := by first | exact zeroID | exact zeroLabel) (hm := hm) (h := ?_); clear hm; intro b1 w1 hm; (try simp only [rowOf_set, k1, k2, k3, Value.cells, Act.eval, k7, k8, k9, kA, Option.getD_some] at hm)) | (refine wl_box (by rfl) rfl (by first | exact idV_cells _ | exact labV_cells _ _ | exact rectV_cells _ _ _ _ | rfl) hm ?_; clear hm; intro b1 w1 hm) | (refine wl_build (by rfl) (built_zeroL) rfl ?_; (try simp only [Act.put, k1, k2, k3]); (try simp only [← labV_eq, ← idV_eq])) | (refine wl_build (by rfl) (built_lab1 _) rfl ?_; (try simp only [Act.put, k1, k2, k3]); (try simp only [← labV_eq, ← idV_eq])) | (go_at_call 16; refine (hi _).mono ?_; rintro e w1 ⟨rfl, hx⟩; replace hm := hm.call hx; clear hx) | (with_reducible first | refine stBs ?_ | refine stMs ?_ | refine stAp ?_ | refine stCo ?_)); (try simp only [k4, k5, k6, Act.put, k1, k2, k3]))
      refine bodyPost_ret (results_row_tmp (h := rfl) _ _ _ _ _ _ _ rfl (hm.heap (i := 1) rfl) undID rfl (by first | exact sizeID | (simp only [rowOf_size, idC_size]; exact sizeID))) rfl ?_
      exact ⟨by rw [idV_eq a] <;> rfl, hm.tail.tail⟩
theorem refLb_more (b : Nat) (s : ByteArray) (hs : s.size = 0) : TakesR 32 #[.pointer (some ⟨b, 0, none⟩)] b s (.tuple #[labV 0 0, .int .i64 4]) s := by
  intro w hw
  rw [labV_eq 0 0]
  go_enter Try.func32, Try.ntmps32
  have hm := Mem.start hw
  go_wp2_with ((first | refine wpList_skip (by rfl) ?_ | (refine wlL (hm := hm) (hu := by first | exact undID | exact undLabel) (hi := by (try simp only [rowOf_size, idC_size]); first | exact sizeID | exact sizeLabel) (h := ?_); (try simp only [Act.put, k1, k2, k3]); (try simp only [← labV_eq, ← idV_eq])) | refine wlLC (hm := hm) (hu := by first | exact undStr | exact undByteI | exact undInt | exact undU64) (h := ?_) | (refine wlS (hm := hm) (hv := (by first | rfl | exact idV_eq _ | exact labV_eq _ _ | exact rectV_eq _ _ _ _)) (hi := by (try simp only [rowOf_size, idC_size]); first | exact sizeID | exact sizeLabel) (hs := by first | (simp only [rowOf_size, idC_size]; done) | rfl) (h1 := by first | rfl | exact idC_one _ | exact rowOf_one _ _ (fun _ _ => rfl) | (simp only [List.size_toArray, List.length_cons, List.all_toArray', List.all_cons, List.all_nil, Value.oneCell', Bool.and_true, Bool.and_self]; done) | (simp [Value.oneCell']; done)) (h := ?_); clear hm; intro w1 hm; (try simp only [rowOf_set, k1, k2, k3, Value.cells, Act.eval, k7, k8, k9, kA, Option.getD_some] at hm)) | (refine wlSC (hm := hm) (hi := by first | exact sizeStr | exact sizeByteI | exact sizeInt | exact sizeU64) (ho := by first | decide | (simp only [rowOf_size, idC_size]; omega) | (simp; done)) (h := ?_); clear hm; intro w1 hm; (try simp only [rowOf_set, k1, k2, k3, Value.cells, Act.eval, k7, k8, k9, kA, Option.getD_some] at hm)) | (refine wlA (hz := by first | exact zeroID | exact zeroLabel) (hm := hm) (h := ?_); clear hm; intro b1 w1 hm; (try simp only [rowOf_set, k1, k2, k3, Value.cells, Act.eval, k7, k8, k9, kA, Option.getD_some] at hm)) | (refine wl_box (by rfl) rfl (by first | exact idV_cells _ | exact labV_cells _ _ | exact rectV_cells _ _ _ _ | rfl) hm ?_; clear hm; intro b1 w1 hm) | (refine wl_build (by rfl) (built_zeroL) rfl ?_; (try simp only [Act.put, k1, k2, k3]); (try simp only [← labV_eq, ← idV_eq])) | (refine wl_build (by rfl) (built_lab1 _) rfl ?_; (try simp only [Act.put, k1, k2, k3]); (try simp only [← labV_eq, ← idV_eq])) | (go_at_call 16; refine (hi _).mono ?_; rintro e w1 ⟨rfl, hx⟩; replace hm := hm.call hx; clear hx) | (with_reducible first | refine stBs ?_ | refine stMs ?_ | refine stAp ?_ | refine stCo ?_)); (try simp only [k4, k5, k6, Act.put, k1, k2, k3]))
  refine bodyPost_ret (results_row_tmp (h := rfl) _ _ _ _ _ _ _ rfl (hm.heap (i := 0) rfl) undLabel rfl (by first | exact sizeLabel | (simp only [rowOf_size, idC_size]; exact sizeLabel))) rfl ?_
  exact ⟨rfl, hm.tail⟩
theorem refLb_form (b : Nat) (s : ByteArray) (m n : Nat) (hs : s.size = m) (h0 : 0 < m) (hn : 64 < n) (hn2 : n < 256) (hI0 : ∀ w, (Instr.index 9 (.string s) (.int .i64 0)).run Try.prog w = .ok (.int .u8 (n : Int)) w) :
    TakesR 32 #[.pointer (some ⟨b, 0, none⟩)] b s (.tuple #[labV 0 0, .int .i64 3]) s := by
  intro w hw
  rw [labV_eq 0 0]
  have d1 : ((m : Int) == 0) = false := by rw [beq_eq_false_iff_ne]; omega
  have d2 : ¬ m = 0 := by omega
  have f1 : IntKind.i64.wrap (n : Int) = (n : Int) := wrap_i64 (by omega) (by omega)
  go_enter Try.func32, Try.ntmps32
  have hm := Mem.start hw
  go_wp2_with ((first | refine wpList_skip (by rfl) ?_ | (refine wlL (hm := hm) (hu := by first | exact undID | exact undLabel) (hi := by (try simp only [rowOf_size, idC_size]); first | exact sizeID | exact sizeLabel) (h := ?_); (try simp only [Act.put, k1, k2, k3]); (try simp only [← labV_eq, ← idV_eq])) | refine wlLC (hm := hm) (hu := by first | exact undStr | exact undByteI | exact undInt | exact undU64) (h := ?_) | (refine wlS (hm := hm) (hv := (by first | rfl | exact idV_eq _ | exact labV_eq _ _ | exact rectV_eq _ _ _ _)) (hi := by (try simp only [rowOf_size, idC_size]); first | exact sizeID | exact sizeLabel) (hs := by first | (simp only [rowOf_size, idC_size]; done) | rfl) (h1 := by first | rfl | exact idC_one _ | exact rowOf_one _ _ (fun _ _ => rfl) | (simp only [List.size_toArray, List.length_cons, List.all_toArray', List.all_cons, List.all_nil, Value.oneCell', Bool.and_true, Bool.and_self]; done) | (simp [Value.oneCell']; done)) (h := ?_); clear hm; intro w1 hm; (try simp only [rowOf_set, k1, k2, k3, Value.cells, Act.eval, k7, k8, k9, kA, Option.getD_some] at hm)) | (refine wlSC (hm := hm) (hi := by first | exact sizeStr | exact sizeByteI | exact sizeInt | exact sizeU64) (ho := by first | decide | (simp only [rowOf_size, idC_size]; omega) | (simp; done)) (h := ?_); clear hm; intro w1 hm; (try simp only [rowOf_set, k1, k2, k3, Value.cells, Act.eval, k7, k8, k9, kA, Option.getD_some] at hm)) | (refine wlA (hz := by first | exact zeroID | exact zeroLabel) (hm := hm) (h := ?_); clear hm; intro b1 w1 hm; (try simp only [rowOf_set, k1, k2, k3, Value.cells, Act.eval, k7, k8, k9, kA, Option.getD_some] at hm)) | (refine wl_box (by rfl) rfl (by first | exact idV_cells _ | exact labV_cells _ _ | exact rectV_cells _ _ _ _ | rfl) hm ?_; clear hm; intro b1 w1 hm) | (refine wl_build (by rfl) (built_zeroL) rfl ?_; (try simp only [Act.put, k1, k2, k3]); (try simp only [← labV_eq, ← idV_eq])) | (refine wl_build (by rfl) (built_lab1 _) rfl ?_; (try simp only [Act.put, k1, k2, k3]); (try simp only [← labV_eq, ← idV_eq])) | (go_at_call 16; refine (hi _).mono ?_; rintro e w1 ⟨rfl, hx⟩; replace hm := hm.call hx; clear hx) | (with_reducible first | refine stBs ?_ | refine stMs ?_ | refine stAp ?_ | refine stCo ?_)); (try simp only [k4, k5, k6, Act.put, k1, k2, k3]))
  refine bodyPost_ret (results_row_tmp (h := rfl) _ _ _ _ _ _ _ rfl (hm.heap (i := 1) rfl) undLabel rfl (by first | exact sizeLabel | (simp only [rowOf_size, idC_size]; exact sizeLabel))) rfl ?_
  exact ⟨rfl, hm.tail.tail⟩
theorem refLb_cut (b : Nat) (s : ByteArray) (m n c : Nat) (hs : s.size = m) (h0 : 0 < m) (hn : ¬ 64 < n) (hc : (n + 7) / 8 = c) (hlt : m < c + 1) (hI0 : ∀ w, (Instr.index 9 (.string s) (.int .i64 0)).run Try.prog w = .ok (.int .u8 (n : Int)) w) :
    TakesR 32 #[.pointer (some ⟨b, 0, none⟩)] b s (.tuple #[labV 0 0, .int .i64 4]) s := by
  intro w hw
  rw [labV_eq 0 0]
  have d1 : ((m : Int) == 0) = false := by rw [beq_eq_false_iff_ne]; omega
  have d2 : ¬ m = 0 := by omega
  have f1 : IntKind.i64.wrap (n : Int) = (n : Int) := wrap_i64 (by omega) (by omega)
  obtain ⟨n7, hn7⟩ : ∃ x, n + 7 = x := ⟨_, rfl⟩
  obtain ⟨c1, hc1⟩ : ∃ x, c + 1 = x := ⟨_, rfl⟩
  have f2 : IntKind.i64.wrap ((n : Int) + 7) = (n7 : Int) := by rw [wrap_i64 (by omega) (by omega)]; omega
  have f4 : (n7 : Int) / 8 = (c : Int) := by omega
  have f5 : (n7 : Int).tdiv 8 = (c : Int) := by rw [Int.tdiv_eq_ediv_of_nonneg (by omega)]; exact f4
  have f6 : IntKind.i64.wrap (c : Int) = (c : Int) := wrap_i64 (by omega) (by omega)
  have f7 : IntKind.i64.wrap (1 + (c : Int)) = (c1 : Int) := by rw [wrap_i64 (by omega) (by omega)]; omega
  rw [hc1] at hlt
  clear hn7 hc hc1
  go_enter Try.func32, Try.ntmps32
  have hm := Mem.start hw
  go_wp2_with ((first | refine wpList_skip (by rfl) ?_ | (refine wlL (hm := hm) (hu := by first | exact undID | exact undLabel) (hi := by (try simp only [rowOf_size, idC_size]); first | exact sizeID | exact sizeLabel) (h := ?_); (try simp only [Act.put, k1, k2, k3]); (try simp only [← labV_eq, ← idV_eq])) | refine wlLC (hm := hm) (hu := by first | exact undStr | exact undByteI | exact undInt | exact undU64) (h := ?_) | (refine wlS (hm := hm) (hv := (by first | rfl | exact idV_eq _ | exact labV_eq _ _ | exact rectV_eq _ _ _ _)) (hi := by (try simp only [rowOf_size, idC_size]); first | exact sizeID | exact sizeLabel) (hs := by first | (simp only [rowOf_size, idC_size]; done) | rfl) (h1 := by first | rfl | exact idC_one _ | exact rowOf_one _ _ (fun _ _ => rfl) | (simp only [List.size_toArray, List.length_cons, List.all_toArray', List.all_cons, List.all_nil, Value.oneCell', Bool.and_true, Bool.and_self]; done) | (simp [Value.oneCell']; done)) (h := ?_); clear hm; intro w1 hm; (try simp only [rowOf_set, k1, k2, k3, Value.cells, Act.eval, k7, k8, k9, kA, Option.getD_some] at hm)) | (refine wlSC (hm := hm) (hi := by first | exact sizeStr | exact sizeByteI | exact sizeInt | exact sizeU64) (ho := by first | decide | (simp only [rowOf_size, idC_size]; omega) | (simp; done)) (h := ?_); clear hm; intro w1 hm; (try simp only [rowOf_set, k1, k2, k3, Value.cells, Act.eval, k7, k8, k9, kA, Option.getD_some] at hm)) | (refine wlA (hz := by first | exact zeroID | exact zeroLabel) (hm := hm) (h := ?_); clear hm; intro b1 w1 hm; (try simp only [rowOf_set, k1, k2, k3, Value.cells, Act.eval, k7, k8, k9, kA, Option.getD_some] at hm)) | (refine wl_box (by rfl) rfl (by first | exact idV_cells _ | exact labV_cells _ _ | exact rectV_cells _ _ _ _ | rfl) hm ?_; clear hm; intro b1 w1 hm) | (refine wl_build (by rfl) (built_zeroL) rfl ?_; (try simp only [Act.put, k1, k2, k3]); (try simp only [← labV_eq, ← idV_eq])) | (refine wl_build (by rfl) (built_lab1 _) rfl ?_; (try simp only [Act.put, k1, k2, k3]); (try simp only [← labV_eq, ← idV_eq])) | (go_at_call 16; refine (hi _).mono ?_; rintro e w1 ⟨rfl, hx⟩; replace hm := hm.call hx; clear hx) | (with_reducible first | refine stBs ?_ | refine stMs ?_ | refine stAp ?_ | refine stCo ?_)); (try simp only [k4, k5, k6, Act.put, k1, k2, k3]))
  refine bodyPost_ret (results_row_tmp (h := rfl) _ _ _ _ _ _ _ rfl (hm.heap (i := 1) rfl) undLabel rfl (by first | exact sizeLabel | (simp only [rowOf_size, idC_size]; exact sizeLabel))) rfl ?_
  exact ⟨rfl, hm.tail.tail⟩
theorem refLb_go (b : Nat) (s r : ByteArray) (m n c : Nat) (F : Nat → Nat) (hF : ∀ k, F k < 256) (hs : s.size = m) (hm6 : m < 2 ^ 61) (hn : ¬ 64 < n) (hc : (n + 7) / 8 = c) (hlt : c + 1 ≤ m) (hr : s.extract (c + 1) s.size = r) (q : Bool)
    (hI0 : ∀ w, (Instr.index 9 (.string s) (.int .i64 0)).run Try.prog w = .ok (.int .u8 (n : Int)) w)
    (hI : ∀ k : Nat, k < c → ∀ w, (Instr.index 9 (.string s) (.int .i64 ((k + 1 : Nat) : Int))).run Try.prog w = .ok (.int .u8 ((F k : Nat) : Int)) w)
    (hi : Says 16 #[labV (n : Int) (labAcc F c)] (.bool q)) :
    TakesR 32 #[.pointer (some ⟨b, 0, none⟩)] b s (if q then .tuple #[labV (n : Int) (labAcc F c), .int .i64 0] else .tuple #[labV 0 0, .int .i64 3]) (if q then r else s) := by
  intro w hw
  obtain ⟨res, hres⟩ : ∃ res, (if q then Value.tuple #[labV (n : Int) (labAcc F c), .int .i64 0] else .tuple #[labV 0 0, .int .i64 3]) = res := ⟨_, rfl⟩
  obtain ⟨end', hend⟩ : ∃ e, (if q then r else s) = e := ⟨_, rfl⟩
  rw [hres, hend]
  have HRes := hid hres
  have HEnd := hid hend
  have HF := hid hF
  have HI := hid hI
  have Hi := hid hi
  have d1 : ((m : Int) == 0) = false := by rw [beq_eq_false_iff_ne]; omega
  have d2 : ¬ m = 0 := by omega
  have f1 : IntKind.i64.wrap (n : Int) = (n : Int) := wrap_i64 (by omega) (by omega)
  have HSL := hid (slice_from (s := s) (t := r) (n := c + 1) (by omega) hr)
  obtain ⟨n7, hn7⟩ : ∃ x, n + 7 = x := ⟨_, rfl⟩
  obtain ⟨c1, hc1⟩ : ∃ x, c + 1 = x := ⟨_, rfl⟩
  have f2 : IntKind.i64.wrap ((n : Int) + 7) = (n7 : Int) := by rw [wrap_i64 (by omega) (by omega)]; omega
  have f4 : (n7 : Int) / 8 = (c : Int) := by omega
  have f5 : (n7 : Int).tdiv 8 = (c : Int) := by rw [Int.tdiv_eq_ediv_of_nonneg (by omega)]; exact f4
  have f6 : IntKind.i64.wrap (c : Int) = (c : Int) := wrap_i64 (by omega) (by omega)
  have f7 : IntKind.i64.wrap (1 + (c : Int)) = (c1 : Int) := by rw [wrap_i64 (by omega) (by omega)]; omega
  have hlt' : ¬ m < c1 := by omega
  rw [hc1] at HSL
  have HC := hid (show c ≤ 8 from by omega)
  clear hn7 hc hc1 hres hend hF hI hi hr hlt hm6
  go_enter Try.func32, Try.ntmps32
  have hm := Mem.start hw
  clear hw
  go_wp2_with (with_reducible first | refine stAl ?_ | refine stBo ?_ | refine stLo ?_ | refine stSo ?_ | refine stBu ?_ | refine stBs ?_ | refine stMs ?_ | refine stAp ?_ | refine stCo ?_); refine Stop.go (wl_alloc (by rfl) zeroLabel rfl hm ?_); clear hm; intro b2 w2 hm; simp only [Act.put, k1, k2, k3]; (try simp only [rowOf_set, k1, k2, k3, Value.cells, Act.eval, k7, k8, k9, kA, Option.getD_some] at hm)
  go_wp2_with ((first | refine wpList_skip (by rfl) ?_ | (refine wlL (hm := hm) (hu := by first | exact undID | exact undLabel) (hi := by (try simp only [rowOf_size, idC_size]); first | exact sizeID | exact sizeLabel) (h := ?_); (try simp only [Act.put, k1, k2, k3]); (try simp only [← labV_eq, ← idV_eq])) | refine wlLC (hm := hm) (hu := by first | exact undStr | exact undByteI | exact undInt | exact undU64) (h := ?_) | (refine wlS (hm := hm) (hv := (by first | rfl | exact idV_eq _ | exact labV_eq _ _ | exact rectV_eq _ _ _ _)) (hi := by (try simp only [rowOf_size, idC_size]); first | exact sizeID | exact sizeLabel) (hs := by first | (simp only [rowOf_size, idC_size]; done) | rfl) (h1 := by first | rfl | exact idC_one _ | exact rowOf_one _ _ (fun _ _ => rfl) | (simp only [List.size_toArray, List.length_cons, List.all_toArray', List.all_cons, List.all_nil, Value.oneCell', Bool.and_true, Bool.and_self]; done) | (simp [Value.oneCell']; done)) (h := ?_); clear hm; intro w1 hm; (try simp only [rowOf_set, k1, k2, k3, Value.cells, Act.eval, k7, k8, k9, kA, Option.getD_some] at hm)) | (refine wlSC (hm := hm) (hi := by first | exact sizeStr | exact sizeByteI | exact sizeInt | exact sizeU64) (ho := by first | decide | (simp only [rowOf_size, idC_size]; omega) | (simp; done)) (h := ?_); clear hm; intro w1 hm; (try simp only [rowOf_set, k1, k2, k3, Value.cells, Act.eval, k7, k8, k9, kA, Option.getD_some] at hm)) | (refine wlA (hz := by first | exact zeroID | exact zeroLabel) (hm := hm) (h := ?_); clear hm; intro b1 w1 hm; (try simp only [rowOf_set, k1, k2, k3, Value.cells, Act.eval, k7, k8, k9, kA, Option.getD_some] at hm)) | (refine wl_box (by rfl) rfl (by first | exact idV_cells _ | exact labV_cells _ _ | exact rectV_cells _ _ _ _ | rfl) hm ?_; clear hm; intro b1 w1 hm) | (refine wl_build (by rfl) (built_zeroL) rfl ?_; (try simp only [Act.put, k1, k2, k3]); (try simp only [← labV_eq, ← idV_eq])) | (refine wl_build (by rfl) (built_lab1 _) rfl ?_; (try simp only [Act.put, k1, k2, k3]); (try simp only [← labV_eq, ← idV_eq])) | (go_at_call 16; refine (hi _).mono ?_; rintro e w1 ⟨rfl, hx⟩; replace hm := hm.call hx; clear hx) | (with_reducible first | refine stBs ?_ | refine stMs ?_ | refine stAp ?_ | refine stCo ?_)); (try simp only [k4, k5, k6, Act.put, k1, k2, k3]))
  clear hI0 f1 f2 f4 f5 f6 hn hlt' d1 d2
  go_loopw [6] (fun vi wr => ∃ k : Nat, k ≤ c ∧ vi = .int .i64 (k : Int) ∧ Mem w [b] [(b1, .cells #[.int .i64 (n : Int), .int .u64 ((labAcc F k : Nat) : Int)] 26 (0, 0)), (b2, .cells #[.int .i64 0, .int .u64 0] 26 (0, 0)), (b, .cells #[.string s] 52 (0, 0))] wr)
    (fun vi _ => (c - intOf vi).toNat)
  case atStart => exact ⟨0, by omega, rfl, hm⟩
  case round =>
    clear hm
    obtain ⟨k, hk, rfl, hm⟩ := hrel
    by_cases hkc : k < c
    · have hi := HI.out k hkc
      have hfk := HF.out k
      have hc8 := HC.out
      obtain ⟨hA1, hA2⟩ := labAcc_ok F HF.out k (by omega)
      obtain ⟨hB1, hB2⟩ := labAcc_ok F HF.out (k + 1) (by omega)
      have hor := labAcc_or F HF.out k (by omega)
      obtain ⟨y, hy⟩ : ∃ y, F k = y := ⟨_, rfl⟩
      obtain ⟨v, hv⟩ : ∃ v, labAcc F k = v := ⟨_, rfl⟩
      obtain ⟨v', hv'⟩ : ∃ v', labAcc F (k + 1) = v' := ⟨_, rfl⟩
      obtain ⟨x, hx⟩ : ∃ x, 56 - 8 * k = x := ⟨_, rfl⟩
      obtain ⟨x8, hx8⟩ : ∃ x, 8 * k = x := ⟨_, rfl⟩
      obtain ⟨kk, hkk⟩ : ∃ x, k + 1 = x := ⟨_, rfl⟩
      rw [hkk] at hi
      rw [hy] at hi hfk hor
      rw [hv] at hm hor hA2
      rw [hv'] at hor hB2
      rw [hx] at hor
      have hp : 2 ^ x ≤ 2 ^ 56 := Nat.pow_le_pow_right (by omega) (by omega)
      have hz64 : y * 2 ^ x < 2 ^ 64 := by
        have := Nat.mul_lt_mul_of_lt_of_le hfk hp (Nat.pow_pos (by omega))
        omega
      obtain ⟨z, hz⟩ : ∃ z, y * 2 ^ x = z := ⟨_, rfl⟩
      rw [hz] at hor hz64
      have g0 : IntKind.u64.wrap (y : Int) = (y : Int) := wrap_u64 (by omega) (by omega)
      have g1 : IntKind.i64.wrap (8 * (k : Int)) = (x8 : Int) := by rw [wrap_i64 (by omega) (by omega)]; omega
      have g2 : IntKind.i64.wrap (56 - (x8 : Int)) = (x : Int) := by rw [wrap_i64 (by omega) (by omega)]; omega
      have hmin : min x 64 = x := by omega
      have g3 : IntKind.u64.wrap ((y : Int) * 2 ^ x) = (z : Int) := by
        rw [show (y : Int) * 2 ^ x = ((y * 2 ^ x : Nat) : Int) from by push_cast; rfl, hz]
        exact wrap_u64 (by omega) (by omega)
      have g4 : bits .or .u64 (v : Int) (z : Int) = (v' : Int) := by rw [u64_or_nat _ _ hA2 hz64, hor]
      have g5 : IntKind.i64.wrap ((k : Int) + 1) = (k : Int) + 1 := wrap_i64 (by omega) (by omega)
      have g6 : IntKind.i64.wrap (1 + (k : Int)) = (kk : Int) := by rw [wrap_i64 (by omega) (by omega)]; omega
      have z0 : (0 : Int) ≤ (x : Int) := by omega
      have e1 : (k : Int) < (c : Int) := by omega
      have HV := hid hv'
      clear hA1 hA2 hB1 hB2 hor hy hv hv' hx hx8 hp hz64 hz hc8 hfk hk hkk
      go_wp2_with ((first | refine wpList_skip (by rfl) ?_ | (refine wlL (hm := hm) (hu := by first | exact undID | exact undLabel) (hi := by (try simp only [rowOf_size, idC_size]); first | exact sizeID | exact sizeLabel) (h := ?_); (try simp only [Act.put, k1, k2, k3]); (try simp only [← labV_eq, ← idV_eq])) | refine wlLC (hm := hm) (hu := by first | exact undStr | exact undByteI | exact undInt | exact undU64) (h := ?_) | (refine wlS (hm := hm) (hv := (by first | rfl | exact idV_eq _ | exact labV_eq _ _ | exact rectV_eq _ _ _ _)) (hi := by (try simp only [rowOf_size, idC_size]); first | exact sizeID | exact sizeLabel) (hs := by first | (simp only [rowOf_size, idC_size]; done) | rfl) (h1 := by first | rfl | exact idC_one _ | exact rowOf_one _ _ (fun _ _ => rfl) | (simp only [List.size_toArray, List.length_cons, List.all_toArray', List.all_cons, List.all_nil, Value.oneCell', Bool.and_true, Bool.and_self]; done) | (simp [Value.oneCell']; done)) (h := ?_); clear hm; intro w1 hm; (try simp only [rowOf_set, k1, k2, k3, Value.cells, Act.eval, k7, k8, k9, kA, Option.getD_some] at hm)) | (refine wlSC (hm := hm) (hi := by first | exact sizeStr | exact sizeByteI | exact sizeInt | exact sizeU64) (ho := by first | decide | (simp only [rowOf_size, idC_size]; omega) | (simp; done)) (h := ?_); clear hm; intro w1 hm; (try simp only [rowOf_set, k1, k2, k3, Value.cells, Act.eval, k7, k8, k9, kA, Option.getD_some] at hm)) | (refine wlA (hz := by first | exact zeroID | exact zeroLabel) (hm := hm) (h := ?_); clear hm; intro b1 w1 hm; (try simp only [rowOf_set, k1, k2, k3, Value.cells, Act.eval, k7, k8, k9, kA, Option.getD_some] at hm)) | (refine wl_box (by rfl) rfl (by first | exact idV_cells _ | exact labV_cells _ _ | exact rectV_cells _ _ _ _ | rfl) hm ?_; clear hm; intro b1 w1 hm) | (refine wl_build (by rfl) (built_zeroL) rfl ?_; (try simp only [Act.put, k1, k2, k3]); (try simp only [← labV_eq, ← idV_eq])) | (refine wl_build (by rfl) (built_lab1 _) rfl ?_; (try simp only [Act.put, k1, k2, k3]); (try simp only [← labV_eq, ← idV_eq])) | (go_at_call 16; refine (hi _).mono ?_; rintro e w1 ⟨rfl, hx⟩; replace hm := hm.call hx; clear hx) | (with_reducible first | refine stBs ?_ | refine stMs ?_ | refine stAp ?_ | refine stCo ?_)); (try simp only [k4, k5, k6, Act.put, k1, k2, k3]))
      go_wp2_with (with_reducible first | refine stAl ?_ | refine stBo ?_ | refine stLo ?_ | refine stSo ?_ | refine stBu ?_ | refine stBs ?_ | refine stMs ?_ | refine stAp ?_ | refine stCo ?_); refine wp_quiet_last 16 (by kernel_rfl) rfl (by kernel_rfl) (by kernel_rfl) hm ?_; simp only [List.take_succ_cons, List.take_zero, List.cons_append, List.nil_append, hush]
      repeat ((first | refine wq_skip (by rfl) ?_ | (refine wqL (hu := by first | exact undID | exact undLabel) (hi := by (try simp only [rowOf_size, idC_size]); first | exact sizeID | exact sizeLabel) (h := ?_); (try simp only [Act.put, k1, k2, k3]); (try simp only [← labV_eq, ← idV_eq])) | refine wqLC (hu := by first | exact undStr | exact undByteI | exact undInt | exact undU64) (h := ?_) | ((with_reducible show wpQuiet _ _ _ _ (⟨_, .call _, _, _, _, _⟩ :: _) _); refine wq_ask (by rfl) ?_; apply Exists.intro; refine ⟨?_, ?_⟩; (focus (intro w hC; go_simp; first | (go_at_call 16; exact (hi _).mono fun e w' h => ⟨h.1, hC.call h.2⟩)))) | (refine wq_build (by rfl) (built_zeroL) rfl ?_; (try simp only [Act.put, k1, k2, k3]); (try simp only [← labV_eq, ← idV_eq])) | (refine wq_build (by rfl) (built_lab1 _) rfl ?_; (try simp only [Act.put, k1, k2, k3]); (try simp only [← labV_eq, ← idV_eq])) | refine wqS (h := ?_)); (try simp only [k4, k5, k6, Act.put, k1, k2, k3]))
      refine wpQuiet_nil ?_; clear hm; intro w7 hm
      go_wp2_with ((first | refine wpList_skip (by rfl) ?_ | (refine wlL (hm := hm) (hu := by first | exact undID | exact undLabel) (hi := by (try simp only [rowOf_size, idC_size]); first | exact sizeID | exact sizeLabel) (h := ?_); (try simp only [Act.put, k1, k2, k3]); (try simp only [← labV_eq, ← idV_eq])) | refine wlLC (hm := hm) (hu := by first | exact undStr | exact undByteI | exact undInt | exact undU64) (h := ?_) | (refine wlS (hm := hm) (hv := (by first | rfl | exact idV_eq _ | exact labV_eq _ _ | exact rectV_eq _ _ _ _)) (hi := by (try simp only [rowOf_size, idC_size]); first | exact sizeID | exact sizeLabel) (hs := by first | (simp only [rowOf_size, idC_size]; done) | rfl) (h1 := by first | rfl | exact idC_one _ | exact rowOf_one _ _ (fun _ _ => rfl) | (simp only [List.size_toArray, List.length_cons, List.all_toArray', List.all_cons, List.all_nil, Value.oneCell', Bool.and_true, Bool.and_self]; done) | (simp [Value.oneCell']; done)) (h := ?_); clear hm; intro w1 hm; (try simp only [rowOf_set, k1, k2, k3, Value.cells, Act.eval, k7, k8, k9, kA, Option.getD_some] at hm)) | (refine wlSC (hm := hm) (hi := by first | exact sizeStr | exact sizeByteI | exact sizeInt | exact sizeU64) (ho := by first | decide | (simp only [rowOf_size, idC_size]; omega) | (simp; done)) (h := ?_); clear hm; intro w1 hm; (try simp only [rowOf_set, k1, k2, k3, Value.cells, Act.eval, k7, k8, k9, kA, Option.getD_some] at hm)) | (refine wlA (hz := by first | exact zeroID | exact zeroLabel) (hm := hm) (h := ?_); clear hm; intro b1 w1 hm; (try simp only [rowOf_set, k1, k2, k3, Value.cells, Act.eval, k7, k8, k9, kA, Option.getD_some] at hm)) | (refine wl_box (by rfl) rfl (by first | exact idV_cells _ | exact labV_cells _ _ | exact rectV_cells _ _ _ _ | rfl) hm ?_; clear hm; intro b1 w1 hm) | (refine wl_build (by rfl) (built_zeroL) rfl ?_; (try simp only [Act.put, k1, k2, k3]); (try simp only [← labV_eq, ← idV_eq])) | (refine wl_build (by rfl) (built_lab1 _) rfl ?_; (try simp only [Act.put, k1, k2, k3]); (try simp only [← labV_eq, ← idV_eq])) | (go_at_call 16; refine (hi _).mono ?_; rintro e w1 ⟨rfl, hx⟩; replace hm := hm.call hx; clear hx) | (with_reducible first | refine stBs ?_ | refine stMs ?_ | refine stAp ?_ | refine stCo ?_)); (try simp only [k4, k5, k6, Act.put, k1, k2, k3]))
      go_roundw
      case rel => exact ⟨k + 1, by omega, by go_num, by rw [HV.out]; exact hm⟩
      case measure => (simp [intOf]; try omega)
    · obtain rfl : k = c := by omega
      have hi := Hi.out
      obtain ⟨v, hv⟩ : ∃ v, labAcc F k = v := ⟨_, rfl⟩
      have hrs := HRes.out
      have hen := HEnd.out
      have hsl := HSL.out
      rw [hv] at hm hi hrs
      have HR2 := hid hrs
      have HE2 := hid hen
      clear hrs hen hk hkc hv
      cases q with
      | false =>
        have hrs := HR2.out
        have hen := HE2.out
        rw [if_neg (by decide), labV_eq 0 0] at hrs
        rw [if_neg (by decide)] at hen
        subst hen
        have HR3 := hid hrs
        clear hrs HR2 HRes HE2 HEnd
        go_wp2_with ((first | refine wpList_skip (by rfl) ?_ | (refine wlL (hm := hm) (hu := by first | exact undID | exact undLabel) (hi := by (try simp only [rowOf_size, idC_size]); first | exact sizeID | exact sizeLabel) (h := ?_); (try simp only [Act.put, k1, k2, k3]); (try simp only [← labV_eq, ← idV_eq])) | refine wlLC (hm := hm) (hu := by first | exact undStr | exact undByteI | exact undInt | exact undU64) (h := ?_) | (refine wlS (hm := hm) (hv := (by first | rfl | exact idV_eq _ | exact labV_eq _ _ | exact rectV_eq _ _ _ _)) (hi := by (try simp only [rowOf_size, idC_size]); first | exact sizeID | exact sizeLabel) (hs := by first | (simp only [rowOf_size, idC_size]; done) | rfl) (h1 := by first | rfl | exact idC_one _ | exact rowOf_one _ _ (fun _ _ => rfl) | (simp only [List.size_toArray, List.length_cons, List.all_toArray', List.all_cons, List.all_nil, Value.oneCell', Bool.and_true, Bool.and_self]; done) | (simp [Value.oneCell']; done)) (h := ?_); clear hm; intro w1 hm; (try simp only [rowOf_set, k1, k2, k3, Value.cells, Act.eval, k7, k8, k9, kA, Option.getD_some] at hm)) | (refine wlSC (hm := hm) (hi := by first | exact sizeStr | exact sizeByteI | exact sizeInt | exact sizeU64) (ho := by first | decide | (simp only [rowOf_size, idC_size]; omega) | (simp; done)) (h := ?_); clear hm; intro w1 hm; (try simp only [rowOf_set, k1, k2, k3, Value.cells, Act.eval, k7, k8, k9, kA, Option.getD_some] at hm)) | (refine wlA (hz := by first | exact zeroID | exact zeroLabel) (hm := hm) (h := ?_); clear hm; intro b1 w1 hm; (try simp only [rowOf_set, k1, k2, k3, Value.cells, Act.eval, k7, k8, k9, kA, Option.getD_some] at hm)) | (refine wl_box (by rfl) rfl (by first | exact idV_cells _ | exact labV_cells _ _ | exact rectV_cells _ _ _ _ | rfl) hm ?_; clear hm; intro b1 w1 hm) | (refine wl_build (by rfl) (built_zeroL) rfl ?_; (try simp only [Act.put, k1, k2, k3]); (try simp only [← labV_eq, ← idV_eq])) | (refine wl_build (by rfl) (built_lab1 _) rfl ?_; (try simp only [Act.put, k1, k2, k3]); (try simp only [← labV_eq, ← idV_eq])) | (go_at_call 16; refine (hi _).mono ?_; rintro e w1 ⟨rfl, hx⟩; replace hm := hm.call hx; clear hx) | (with_reducible first | refine stBs ?_ | refine stMs ?_ | refine stAp ?_ | refine stCo ?_)); (try simp only [k4, k5, k6, Act.put, k1, k2, k3]))
        refine bodyPost_ret (results_row_tmp (h := rfl) _ _ _ _ _ _ _ rfl (hm.heap (i := 1) rfl) undLabel rfl (by first | exact sizeLabel | (simp only [rowOf_size, idC_size]; exact sizeLabel))) rfl ?_
        exact ⟨by rw [← HR3.out] <;> rfl, hm.tail.tail⟩
      | true =>
        have hrs := HR2.out
        have hen := HE2.out
        rw [if_pos rfl, labV_eq (n : Int) v] at hrs
        rw [if_pos rfl] at hen
        subst hen
        have HR3 := hid hrs
        clear hrs HR2 HRes HE2 HEnd
        go_wp2_with ((first | refine wpList_skip (by rfl) ?_ | (refine wlL (hm := hm) (hu := by first | exact undID | exact undLabel) (hi := by (try simp only [rowOf_size, idC_size]); first | exact sizeID | exact sizeLabel) (h := ?_); (try simp only [Act.put, k1, k2, k3]); (try simp only [← labV_eq, ← idV_eq])) | refine wlLC (hm := hm) (hu := by first | exact undStr | exact undByteI | exact undInt | exact undU64) (h := ?_) | (refine wlS (hm := hm) (hv := (by first | rfl | exact idV_eq _ | exact labV_eq _ _ | exact rectV_eq _ _ _ _)) (hi := by (try simp only [rowOf_size, idC_size]); first | exact sizeID | exact sizeLabel) (hs := by first | (simp only [rowOf_size, idC_size]; done) | rfl) (h1 := by first | rfl | exact idC_one _ | exact rowOf_one _ _ (fun _ _ => rfl) | (simp only [List.size_toArray, List.length_cons, List.all_toArray', List.all_cons, List.all_nil, Value.oneCell', Bool.and_true, Bool.and_self]; done) | (simp [Value.oneCell']; done)) (h := ?_); clear hm; intro w1 hm; (try simp only [rowOf_set, k1, k2, k3, Value.cells, Act.eval, k7, k8, k9, kA, Option.getD_some] at hm)) | (refine wlSC (hm := hm) (hi := by first | exact sizeStr | exact sizeByteI | exact sizeInt | exact sizeU64) (ho := by first | decide | (simp only [rowOf_size, idC_size]; omega) | (simp; done)) (h := ?_); clear hm; intro w1 hm; (try simp only [rowOf_set, k1, k2, k3, Value.cells, Act.eval, k7, k8, k9, kA, Option.getD_some] at hm)) | (refine wlA (hz := by first | exact zeroID | exact zeroLabel) (hm := hm) (h := ?_); clear hm; intro b1 w1 hm; (try simp only [rowOf_set, k1, k2, k3, Value.cells, Act.eval, k7, k8, k9, kA, Option.getD_some] at hm)) | (refine wl_box (by rfl) rfl (by first | exact idV_cells _ | exact labV_cells _ _ | exact rectV_cells _ _ _ _ | rfl) hm ?_; clear hm; intro b1 w1 hm) | (refine wl_build (by rfl) (built_zeroL) rfl ?_; (try simp only [Act.put, k1, k2, k3]); (try simp only [← labV_eq, ← idV_eq])) | (refine wl_build (by rfl) (built_lab1 _) rfl ?_; (try simp only [Act.put, k1, k2, k3]); (try simp only [← labV_eq, ← idV_eq])) | (go_at_call 16; refine (hi _).mono ?_; rintro e w1 ⟨rfl, hx⟩; replace hm := hm.call hx; clear hx) | (with_reducible first | refine stBs ?_ | refine stMs ?_ | refine stAp ?_ | refine stCo ?_)); (try simp only [k4, k5, k6, Act.put, k1, k2, k3]))
        refine bodyPost_ret (results_row_tmp (h := rfl) _ _ _ _ _ _ _ rfl (hm.heap (i := 1) rfl) undLabel rfl (by first | exact sizeLabel | (simp only [rowOf_size, idC_size]; exact sizeLabel))) rfl ?_
        exact ⟨by rw [← HR3.out] <;> rfl, hm.tail.tail⟩
end Go.Proofs.Ytijkmbebfodhdaa

/- (WirM)
  Wire: both readers answer alike.
-/
namespace Go.Proofs.Ytijkmbebfodhdaa
open Go.RowKit
set_option linter.unusedSimpArgs false
set_option linter.unusedVariables false

theorem valB_num (F : Nat → Nat) : ∀ k, valB F k = numOf F k
  | 0 => rfl
  | k + 1 => by rw [valB, numOf, valB_num F k, Nat.mul_comm]
theorem valB_ge (F : Nat → Nat) (h : 0 < F 0) : ∀ k, 256 ^ k ≤ valB F (k + 1)
  | 0 => by rw [valB, valB]; omega
  | k + 1 => by
    have := valB_ge F h k
    rw [valB, Nat.pow_succ]
    omega
theorem num_canon (m : Nat) (f : Nat → Nat) (hf : ∀ j, f j < 256) (h : numE m f = 0) : nB (valB (dropF 1 f) (f 0)) = f 0 ∧ valB (dropF 1 f) (f 0) < 2 ^ 64 ∧ f 0 ≤ 8 ∧ 1 + f 0 ≤ m ∧ bytesB (f 0 + 1) f = numB (valB (dropF 1 f) (f 0)) := by
  unfold numE at h
  by_cases h0 : m = 0
  · rw [if_pos h0] at h; omega
  rw [if_neg h0] at h
  by_cases h8 : 8 < f 0
  · rw [if_pos h8] at h; omega
  rw [if_neg h8] at h
  by_cases hm : m < 1 + f 0
  · rw [if_pos hm] at h; omega
  rw [if_neg hm] at h
  by_cases hb : 0 < f 0 ∧ f 1 = 0
  · rw [if_pos hb] at h; omega
  obtain ⟨n, hn⟩ : ∃ n, f 0 = n := ⟨_, rfl⟩
  rw [hn] at h8 hm hb ⊢
  have hl := valB_lt (dropF 1 f) (fun k => hf _) n
  have hp : 256 ^ n ≤ 256 ^ 8 := Nat.pow_le_pow_right (by omega) (by omega)
  have e8 : (256 : Nat) ^ 8 = 2 ^ 64 := by decide
  have hnb : nB (valB (dropF 1 f) n) = n := by
    by_cases hn0 : n = 0
    · subst hn0; rfl
    · obtain ⟨k, rfl⟩ : ∃ k, n = k + 1 := ⟨n - 1, by omega⟩
      exact nB_unique _ _ (by omega) (valB_ge (dropF 1 f) (show 0 < f 1 by omega) k) hl
  refine ⟨hnb, by omega, by omega, by omega, ?_⟩
  unfold numB
  rw [hnb]
  refine bytesB_congr fun j hj => ?_
  unfold numF
  rw [hnb]
  by_cases hj0 : j = 0
  · rw [if_pos hj0, hj0, hn]
  · rw [if_neg hj0, valB_num]
    have := numOf_dig (dropF 1 f) (fun k => hf _) n (j - 1) (by omega)
    rw [show n - 1 - (j - 1) = n - j from by omega] at this
    rw [this]
    unfold dropF
    rw [show 1 + (j - 1) = j from by omega]
theorem valB_small (F : Nat → Nat) (hF : ∀ k, F k < 256) (h : F 0 = 0) : ∀ k, valB F (k + 1) < 256 ^ k
  | 0 => by rw [valB, valB, h]; decide
  | k + 1 => by
    have h1 := valB_small F hF h k
    have h2 := hF (k + 1)
    rw [valB, Nat.pow_succ]
    omega
/-- GetNumber, whatever the bytes. -/
theorem get_any (m : Nat) (f : Nat → Nat) (hf : ∀ j, f j < 256) (hm6 : m < 2 ^ 61) : ∃ v k : Nat, Says 54 #[.string (bytesB m f)] (.tuple #[.int .u64 (v : Int), .int .i64 (k : Int), .int .i64 ((numE m f : Nat) : Int)]) ∧
    (numE m f = 0 → v = valB (dropF 1 f) (f 0) ∧ k = f 0 + 1 ∧ k ≤ m) := by
  have hsz := bytesB_size m f
  by_cases h0 : m = 0
  · have e : numE m f = 4 := by unfold numE; rw [if_pos h0]
    rw [e]
    exact ⟨0, 0, get_more _ (by omega), fun h => by omega⟩
  have hI : ∀ k : Nat, k < m → ∀ w, (Instr.index 9 (.string (bytesB m f)) (.int .i64 (k : Int))).run Try.prog w = .ok (.int .u8 ((f k : Nat) : Int)) w := fun k hk => run_indexS (bytesB_get hk) (hf k)
  have hI0 : ∀ w, (Instr.index 9 (.string (bytesB m f)) (.int .i64 0)).run Try.prog w = .ok (.int .u8 ((f 0 : Nat) : Int)) w := hI 0 (by omega)
  by_cases h8 : 8 < f 0
  · have e : numE m f = 3 := by unfold numE; rw [if_neg h0, if_pos h8]
    rw [e]
    exact ⟨0, 0, get_form _ m (f 0) hsz (by omega) h8 (hf 0) hI0, fun h => by omega⟩
  by_cases hm : m < 1 + f 0
  · have e : numE m f = 4 := by unfold numE; rw [if_neg h0, if_neg h8, if_pos hm]
    rw [e]
    exact ⟨0, 0, get_cut _ m (f 0) hsz (by omega) h8 (by omega) hI0, fun h => by omega⟩
  have hl := valB_lt (dropF 1 f) (fun k => hf _) (f 0)
  have hp : 256 ^ f 0 ≤ 256 ^ 8 := Nat.pow_le_pow_right (by omega) (by omega)
  have e8 : (256 : Nat) ^ 8 = 2 ^ 64 := by decide
  have hg := fun q hq => get_go (bytesB m f) (bytesB (f 0 + 1) f) (numB (valB (dropF 1 f) (f 0))) m (f 0) (dropF 1 f) (fun k => hf _) hsz hm6 (by omega) (by omega) q hI0
    (fun k hk => by have := hI (k + 1) (by omega); unfold dropF; rw [Nat.add_comm 1 k]; exact this) (bytesB_take m _ f (by omega)) (refNumber_c _ (by omega)) hq
  by_cases hb : 0 < f 0 ∧ f 1 = 0
  · have e : numE m f = 3 := by unfold numE; rw [if_neg h0, if_neg h8, if_neg hm, if_pos hb]
    have hq : ((numB (valB (dropF 1 f) (f 0))).toList != (bytesB (f 0 + 1) f).toList) = true := by
      rw [bne, str_eq, decide_eq_false, Bool.not_false]
      intro he
      have hs := congrArg ByteArray.size he
      unfold numB at hs
      rw [bytesB_size, bytesB_size] at hs
      obtain ⟨k, hk⟩ : ∃ k, f 0 = k + 1 := ⟨f 0 - 1, by omega⟩
      rw [hk] at hs
      have h1 := valB_small (dropF 1 f) (fun k => hf _) (show f 1 = 0 from hb.2) k
      have hv : 0 < valB (dropF 1 f) (k + 1) := by
        rcases Nat.eq_zero_or_pos (valB (dropF 1 f) (k + 1)) with h | h
        · rw [h] at hs; exact absurd hs (by show ¬ 0 + 1 = k + 1 + 1; omega)
        · exact h
      have h2 := nB_le _ hv
      have h3 := (Nat.pow_lt_pow_iff_right (show 1 < 256 by omega)).1 (Nat.lt_of_le_of_lt h2 h1)
      omega
    have hh := hg true hq
    rw [if_pos rfl] at hh
    rw [e]
    exact ⟨0, 0, hh, fun h => by omega⟩
  · have e : numE m f = 0 := by unfold numE; rw [if_neg h0, if_neg h8, if_neg hm, if_neg hb]
    obtain ⟨_, _, _, _, e5⟩ := num_canon m f hf e
    have hq : ((numB (valB (dropF 1 f) (f 0))).toList != (bytesB (f 0 + 1) f).toList) = false := by rw [e5]; simp
    have hh := hg false hq
    rw [if_neg (by decide)] at hh
    rw [e]
    exact ⟨_, f 0 + 1, hh, fun _ => ⟨rfl, rfl, by omega⟩⟩
theorem both_num (s : ByteArray) (hs : s.size < 2 ^ 61) : ∃ (v e : Nat) (r : ByteArray), r.size ≤ s.size ∧ (∀ b, Takes 24 #[.pointer (some ⟨b, 0, none⟩)] b s (.tuple #[.int .u64 (v : Int), .int .i64 (e : Int)]) r) ∧
    (∀ b, TakesR 28 #[.pointer (some ⟨b, 0, none⟩)] b s (.tuple #[.int .u64 (v : Int), .int .i64 (e : Int)]) r) := by
  obtain ⟨m, hm⟩ : ∃ m, s.size = m := ⟨_, rfl⟩
  obtain ⟨f, hF⟩ : ∃ f, byteOf s = f := ⟨_, rfl⟩
  have hf : ∀ j, f j < 256 := by rw [← hF]; exact byteOf_lt s
  have hsb : bytesB m f = s := by rw [← hF, ← hm]; exact byteOf_eq s
  obtain ⟨v, k, hg, h2⟩ := get_any m f hf (by omega)
  by_cases h : numE m f = 0
  · obtain ⟨rfl, rfl, hk⟩ := h2 h
    rw [h] at hg
    refine ⟨_, 0, bytesB (m - 1 - f 0) (dropF (1 + f 0) f), by rw [bytesB_size]; omega, fun b => by have := Number_ok b m f hf h; rw [hsb] at this; exact this, fun b => ?_⟩
    have := refNum_ok b (bytesB m f) (bytesB (m - (f 0 + 1)) (dropF (f 0 + 1) f)) _ (f 0 + 1) m (bytesB_size _ _) hk (by rw [bytesB_size]; exact bytesB_drop m _ f hk) hg
    rw [hsb, Nat.add_comm (f 0) 1, show m - (1 + f 0) = m - 1 - f 0 from by omega] at this
    exact this
  · refine ⟨0, numE m f, s, Nat.le_refl _, fun b => by have := Number_err b m f hf h; rw [hsb] at this; exact this, fun b => ?_⟩
    have := refNum_err b (bytesB m f) _ _ _ (show ((numE m f : Nat) : Int) ≠ 0 by omega) hg
    rw [hsb] at this
    exact this
theorem both_txt (s : ByteArray) (hs : s.size < 2 ^ 61) : ∃ (t : ByteArray) (e : Nat) (r : ByteArray), r.size ≤ s.size ∧ (∀ b, Takes 25 #[.pointer (some ⟨b, 0, none⟩)] b s (.tuple #[.string t, .int .i64 (e : Int)]) r) ∧
    (∀ b, TakesR 29 #[.pointer (some ⟨b, 0, none⟩)] b s (.tuple #[.string t, .int .i64 (e : Int)]) r) := by
  obtain ⟨m, hm⟩ : ∃ m, s.size = m := ⟨_, rfl⟩
  obtain ⟨f, hF⟩ : ∃ f, byteOf s = f := ⟨_, rfl⟩
  have hf : ∀ j, f j < 256 := by rw [← hF]; exact byteOf_lt s
  have hsb : bytesB m f = s := by rw [← hF, ← hm]; exact byteOf_eq s
  obtain ⟨v, k, hg, h2⟩ := get_any m f hf (by omega)
  by_cases h : txtE m f = 0
  · have hn : numE m f = 0 := by
      unfold txtE at h
      by_cases hq : numE m f ≠ 0
      · rw [if_pos hq] at h; exact h
      · omega
    obtain ⟨rfl, rfl, hk⟩ := h2 hn
    rw [hn] at hg
    have ht4 : txtN f ≤ 4096 ∧ txtN f ≤ m - 1 - f 0 := by
      unfold txtE at h
      rw [if_neg (by omega)] at h
      by_cases h4 : 4096 < txtN f
      · rw [if_pos h4] at h; omega
      · rw [if_neg h4] at h
        by_cases hl : m - 1 - f 0 < txtN f
        · rw [if_pos hl] at h; omega
        · omega
    refine ⟨_, 0, bytesB (m - 1 - f 0 - txtN f) (dropF (1 + f 0 + txtN f) f), by rw [bytesB_size]; omega, fun b => by have := Text_ok b m f hf h; rw [hsb] at this; exact this, fun b => ?_⟩
    have hmid : (bytesB m f).extract (f 0 + 1) (f 0 + 1 + txtN f) = bytesB (txtN f) (dropF (1 + f 0) f) := by
      have h1 : bytesB m f = bytesB (f 0 + 1 + txtN f) f ++ bytesB (m - (f 0 + 1 + txtN f)) (dropF (f 0 + 1 + txtN f) f) := by
        rw [bytesB_append, show f 0 + 1 + txtN f + (m - (f 0 + 1 + txtN f)) = m from by omega]
        refine bytesB_congr fun j hj => ?_
        split
        · rfl
        · unfold dropF; rw [show f 0 + 1 + txtN f + (j - (f 0 + 1 + txtN f)) = j from by omega]
      have h2 : (bytesB (f 0 + 1 + txtN f) f).extract (f 0 + 1) (f 0 + 1 + txtN f) = bytesB (txtN f) (dropF (1 + f 0) f) := by
        rw [bytesB_drop _ _ _ (by omega), show f 0 + 1 + txtN f - (f 0 + 1) = txtN f from by omega, Nat.add_comm 1 (f 0)]; rfl
      rw [← h2, ← bytesB_take m (f 0 + 1 + txtN f) f (by omega)]
      simp [ByteArray.extract_extract]
    have := refTxt_ok b (bytesB m f) (bytesB (txtN f) (dropF (1 + f 0) f)) (bytesB (m - (f 0 + 1 + txtN f)) (dropF (f 0 + 1 + txtN f) f)) (txtN f) (f 0 + 1) m (by omega) (bytesB_size _ _) (by omega) (by omega) (by rw [bytesB_size]; exact bytesB_drop m _ f (by omega)) hmid hg
    rw [hsb, Nat.add_comm (f 0) 1, show m - (1 + f 0 + txtN f) = m - 1 - f 0 - txtN f from by omega] at this
    exact this
  · refine ⟨{ data := #[] }, txtE m f, s, Nat.le_refl _, fun b => by have := Text_err b m f hf h; rw [hsb] at this; exact this, fun b => ?_⟩
    by_cases hn : numE m f = 0
    · obtain ⟨rfl, rfl, hk⟩ := h2 hn
      rw [hn] at hg
      have ht : txtE m f = if 4096 < txtN f then 3 else if m - 1 - f 0 < txtN f then 4 else 0 := by unfold txtE; rw [if_neg (by omega)]
      by_cases h4 : 4096 < txtN f
      · have := refTxt_form b (bytesB m f) (txtN f) _ h4 hg
        rw [hsb] at this
        rw [ht, if_pos h4]
        exact this
      · by_cases hl : m - 1 - f 0 < txtN f
        · have := refTxt_cut b (bytesB m f) (txtN f) (f 0 + 1) m h4 (bytesB_size _ _) (by omega) hk (by omega) hg
          rw [hsb] at this
          rw [ht, if_neg h4, if_pos hl]
          exact this
        · rw [ht, if_neg h4, if_neg hl] at h
          exact absurd rfl h
    · have e : txtE m f = numE m f := by unfold txtE; rw [if_pos hn]
      have := refTxt_err b (bytesB m f) _ _ _ (show ((numE m f : Nat) : Int) ≠ 0 by omega) hg
      rw [hsb] at this
      rw [e]
      exact this
theorem both_plc (s : ByteArray) (hs : s.size < 2 ^ 61) : ∃ (a e : Nat) (r : ByteArray), r.size ≤ s.size ∧ (∀ b, Takes 30 #[.pointer (some ⟨b, 0, none⟩)] b s (.tuple #[idV a, .int .i64 (e : Int)]) r) ∧
    (∀ b, TakesR 31 #[.pointer (some ⟨b, 0, none⟩)] b s (.tuple #[idV a, .int .i64 (e : Int)]) r) := by
  obtain ⟨m, hm⟩ : ∃ m, s.size = m := ⟨_, rfl⟩
  obtain ⟨f, hF⟩ : ∃ f, byteOf s = f := ⟨_, rfl⟩
  have hf : ∀ j, f j < 256 := by rw [← hF]; exact byteOf_lt s
  have hsb : bytesB m f = s := by rw [← hF, ← hm]; exact byteOf_eq s
  by_cases h : m < 20
  · refine ⟨0, 4, s, Nat.le_refl _, fun b => by have := Place_err b m f h; rw [hsb] at this; exact this, fun b => refPl_err b s m hm h⟩
  · have ha : ∀ j, j < 20 → f j = dig (numOf f 20) j := fun j hj => by
      have := numOf_dig f hf 20 j hj
      unfold dig
      rw [show 19 - j = 20 - 1 - j from by omega, this]
    refine ⟨numOf f 20, 0, bytesB (m - 20) (dropF 20 f), by rw [bytesB_size]; omega, fun b => by have := Place_ok b m (numOf f 20) f (by omega) ha; rw [hsb] at this; exact this, fun b => ?_⟩
    have := refPl_ok b (numOf f 20) (bytesB m f) (bytesB (m - 20) (dropF 20 f)) m (bytesB_size _ _) (by omega) (by rw [bytesB_size]; exact bytesB_drop m 20 f (by omega)) (fun k hk => by rw [← ha k hk]; exact run_indexS (bytesB_get (by omega)) (hf k))
    rw [hsb] at this
    exact this
theorem both_lab (s : ByteArray) (hs : s.size < 2 ^ 61) : ∃ (l : Int) (k e : Nat) (r : ByteArray), r.size ≤ s.size ∧ (∀ b, Takes 26 #[.pointer (some ⟨b, 0, none⟩)] b s (.tuple #[labV l k, .int .i64 (e : Int)]) r) ∧
    (∀ b, TakesR 32 #[.pointer (some ⟨b, 0, none⟩)] b s (.tuple #[labV l k, .int .i64 (e : Int)]) r) := by
  obtain ⟨m, hm⟩ : ∃ m, s.size = m := ⟨_, rfl⟩
  obtain ⟨f, hF⟩ : ∃ f, byteOf s = f := ⟨_, rfl⟩
  have hf : ∀ j, f j < 256 := by rw [← hF]; exact byteOf_lt s
  have hsb : bytesB m f = s := by rw [← hF, ← hm]; exact byteOf_eq s
  by_cases h0 : m = 0
  · have e : labE m f = 4 := by unfold labE; rw [if_pos h0]
    exact ⟨0, 0, 4, s, Nat.le_refl _, fun b => by have := Label_err b m f hf (by omega); rw [hsb, e] at this; exact this, fun b => refLb_more b s (by omega)⟩
  have hI : ∀ k : Nat, k < m → ∀ w, (Instr.index 9 (.string s) (.int .i64 (k : Int))).run Try.prog w = .ok (.int .u8 ((f k : Nat) : Int)) w := fun k hk => by rw [← hsb]; exact run_indexS (bytesB_get hk) (hf k)
  have hI0 : ∀ w, (Instr.index 9 (.string s) (.int .i64 0)).run Try.prog w = .ok (.int .u8 ((f 0 : Nat) : Int)) w := hI 0 (by omega)
  by_cases h8 : 64 < f 0
  · have e : labE m f = 3 := by unfold labE; rw [if_neg h0, if_pos h8]
    exact ⟨0, 0, 3, s, Nat.le_refl _, fun b => by have := Label_err b m f hf (by omega); rw [hsb, e] at this; exact this, fun b => refLb_form b s m (f 0) hm (by omega) h8 (hf 0) hI0⟩
  by_cases hc : m - 1 < labN f
  · have e : labE m f = 4 := by unfold labE; rw [if_neg h0, if_neg h8, if_pos hc]
    exact ⟨0, 0, 4, s, Nat.le_refl _, fun b => by have := Label_err b m f hf (by omega); rw [hsb, e] at this; exact this, fun b => refLb_cut b s m (f 0) (labN f) hm (by omega) h8 rfl (by omega) hI0⟩
  have hcl : labN f ≤ 8 := by unfold labN; omega
  have hac := labAcc_ok (dropF 1 f) (fun k => hf _) (labN f) hcl
  have hg := fun b => refLb_go b s (bytesB (m - (labN f + 1)) (dropF (labN f + 1) f)) m (f 0) (labN f) (dropF 1 f) (fun k => hf _) hm (by omega) h8 rfl (by omega) (by rw [← hsb, bytesB_size]; exact bytesB_drop m _ f (by omega)) _ hI0
    (fun k hk => by have := hI (k + 1) (by omega); unfold dropF; rw [Nat.add_comm 1 k]; exact this) (refIs_c (f 0 : Int) _ hac.2)
  by_cases hq : isL (f 0 : Int) (labAcc (dropF 1 f) (labN f)) = true
  · have e : labE m f = 0 := by unfold labE; rw [if_neg h0, if_neg h8, if_neg hc, if_pos hq]
    refine ⟨_, _, 0, bytesB (m - 1 - labN f) (dropF (1 + labN f) f), by rw [bytesB_size]; omega, fun b => by have := Label_ok b m f hf e; rw [hsb] at this; exact this, fun b => ?_⟩
    have := hg b
    rw [if_pos hq, if_pos hq, Nat.add_comm (labN f) 1, show m - (1 + labN f) = m - 1 - labN f from by omega] at this
    exact this
  · have e : labE m f = 3 := by unfold labE; rw [if_neg h0, if_neg h8, if_neg hc, if_neg hq]
    refine ⟨0, 0, 3, s, Nat.le_refl _, fun b => by have := Label_err b m f hf (by omega); rw [hsb, e] at this; exact this, fun b => ?_⟩
    have := hg b
    rw [if_neg hq, if_neg hq] at this
    exact this
end Go.Proofs.Ytijkmbebfodhdaa

/- (LetR)
  Letters: what is read of bytes: numbers, places, peers, a whole letter (plain); a reader's number, place, peer by that.
-/
namespace Go.Proofs.Ytijkmbebfodhdaa
open Go.RowKit
set_option linter.unusedSimpArgs false
set_option linter.unusedVariables false
set_option maxRecDepth 20000

/-! ### Plain -/
def numS (s : ByteArray) : Nat := numE s.size (byteOf s)
def valS (s : ByteArray) : Nat := valB (dropF 1 (byteOf s)) (byteOf s 0)
def restN (s : ByteArray) : ByteArray := bytesB (s.size - 1 - byteOf s 0) (dropF (1 + byteOf s 0) (byteOf s))
/-- A number of lo to hi. -/
def gN (lo hi : Nat) (s : ByteArray) : Except Nat (Nat × ByteArray) :=
  if numS s ≠ 0 then .error (numS s) else if valS s < lo ∨ hi < valS s then .error 3 else .ok (valS s, restN s)
def gI (s : ByteArray) : Except Nat (Nat × ByteArray) :=
  if s.size < 20 then .error 4 else .ok (numOf (byteOf s) 20, bytesB (s.size - 20) (dropF 20 (byteOf s)))
def gP (s : ByteArray) : Except Nat ((Nat × Nat) × ByteArray) := do
  let (a, s) ← gN 0 999 s
  let (p, s) ← gI s
  .ok ((a, p), s)
/-- n of them. -/
def gMany {α : Type} (g : ByteArray → Except Nat (α × ByteArray)) : Nat → ByteArray → Except Nat (List α × ByteArray)
  | 0, s => .ok ([], s)
  | n + 1, s => do
    let (l, s) ← gMany g n s
    let (x, s) ← g s
    .ok (l ++ [x], s)
def opN (f : Bool) (lo hi : Nat) (s : ByteArray) : Except Nat (Nat × ByteArray) := if f then gN lo hi s else .ok (0, s)
def opI (f : Bool) (s : ByteArray) : Except Nat (Nat × ByteArray) := if f then gI s else .ok (0, s)
def opM {α : Type} (g : ByteArray → Except Nat (α × ByteArray)) (f : Bool) (most : Nat) (s : ByteArray) : Except Nat (List α × ByteArray) :=
  if f then (do let (n, s) ← gN 0 most s; gMany g n s) else .ok ([], s)
def opP (f : Bool) (s : ByteArray) : Except Nat ((Int × Nat) × ByteArray) := if f then (do let (p, s) ← gP s; .ok (((p.1 : Int), p.2), s)) else .ok ((-1, 0), s)
/-- A letter that was got. -/
structure LA where
  (kind fa fi req id : Nat) (av : List Nat) (done : Bool) (pa : Int) (pi : Nat) (ps : List (Nat × Nat))
/-- Has a kind the part j? -/
def hasB (k j : Nat) : Bool := bits .and .i64 ((partsM k : Nat) : Int) ((2 ^ j : Nat) : Int) != 0
def leastB (k : Nat) : Nat := if k = 2 then 1 else 0
def getA (s : ByteArray) : Except Nat LA := do
  let (k, s) ← gN 1 8 s
  let (f, s) ← gP s
  let (rq, s) ← opN (hasB k 0) 0 18446744073709551615 s
  let (id, s) ← opI (hasB k 1) s
  let (av, s) ← opM (gN 0 999) (hasB k 2) 16 s
  let (d, s) ← opN (hasB k 3) 0 1 s
  let (y, s) ← opN (hasB k 4) (leastB k) 1 s
  let (p, s) ← opP (y == 1) s
  let (ps, s) ← opM gP (hasB k 5) 8 s
  if 0 < s.size then .error 3 else .ok ⟨k, f.1, f.2, rq, id, av, d == 1, p.1, p.2, ps⟩

theorem valS_lt (s : ByteArray) (h : numS s = 0) : valS s < 2 ^ 64 := by
  unfold valS
  have h1 := valB_lt (dropF 1 (byteOf s)) (fun k => byteOf_lt s _) (byteOf s 0)
  have h8 : ¬ 8 < byteOf s 0 := fun h8 => by
    unfold numS numE at h
    by_cases h0 : s.size = 0
    · rw [if_pos h0] at h; omega
    · rw [if_neg h0, if_pos h8] at h; omega
  have hp : 256 ^ byteOf s 0 ≤ 256 ^ 8 := Nat.pow_le_pow_right (by omega) (by omega)
  have e8 : (256 : Nat) ^ 8 = 2 ^ 64 := by decide
  omega
theorem gN_ok {lo hi : Nat} {s r : ByteArray} {v : Nat} (h : gN lo hi s = .ok (v, r)) : numS s = 0 ∧ valS s = v ∧ restN s = r ∧ lo ≤ v ∧ v ≤ hi := by
  unfold gN at h
  by_cases h0 : numS s ≠ 0
  · rw [if_pos h0] at h; cases h
  · rw [if_neg h0] at h
    by_cases h1 : valS s < lo ∨ hi < valS s
    · rw [if_pos h1] at h; cases h
    · rw [if_neg h1] at h
      cases h
      exact ⟨by omega, rfl, rfl, by omega, by omega⟩
theorem gN_lt {lo hi : Nat} {s r : ByteArray} {v : Nat} (h : gN lo hi s = .ok (v, r)) : v < 2 ^ 64 := by
  have := gN_ok h
  have := valS_lt s this.1
  omega
theorem gMany_error {α : Type} {g : ByteArray → Except Nat (α × ByteArray)} {s : ByteArray} {x i : Nat} (h : gMany g i s = .error x) : ∀ k, gMany g (i + k) s = .error x
  | 0 => h
  | k + 1 => by
    rw [← Nat.add_assoc, gMany, gMany_error h k]; rfl
theorem gMany_err {α : Type} {g : ByteArray → Except Nat (α × ByteArray)} {s s' : ByteArray} {l : List α} {x i n : Nat} (h : gMany g i s = .ok (l, s')) (hg : g s' = .error x) (hi : i < n) : gMany g n s = .error x := by
  have h1 : gMany g (i + 1) s = .error x := by
    rw [gMany, h]
    show (g s' >>= _) = _
    rw [hg]; rfl
  have := gMany_error h1 (n - (i + 1))
  rwa [show i + 1 + (n - (i + 1)) = n by omega] at this
theorem gMany_ok {α : Type} {g : ByteArray → Except Nat (α × ByteArray)} {s s' s2 : ByteArray} {l : List α} {x : α} {i : Nat} (h : gMany g i s = .ok (l, s')) (hg : g s' = .ok (x, s2)) : gMany g (i + 1) s = .ok (l ++ [x], s2) := by
  rw [gMany, h]
  show (g s' >>= _) = _
  rw [hg]; rfl
theorem gMany_len {α : Type} {g : ByteArray → Except Nat (α × ByteArray)} {s : ByteArray} : ∀ {n : Nat} {l : List α} {s' : ByteArray}, gMany g n s = .ok (l, s') → l.length = n
  | 0, l, s', h => by cases h; rfl
  | n + 1, l, s', h => by
    rw [gMany] at h
    cases h1 : gMany g n s with
    | error x => rw [h1] at h; cases h
    | ok p =>
      rw [h1] at h
      have h2 : (g p.2 >>= fun q => Except.ok (p.1 ++ [q.1], q.2)) = .ok (l, s') := h
      cases h3 : g p.2 with
      | error x => rw [h3] at h2; cases h2
      | ok q =>
        rw [h3] at h2
        cases h2
        rw [List.length_append, gMany_len (l := p.1) (s' := p.2) h1]
        rfl

/-! ### Contracts -/
theorem NumS_ok (b : Nat) (s : ByteArray) (h : numS s = 0) : Takes 24 #[.pointer (some ⟨b, 0, none⟩)] b s (.tuple #[.int .u64 ((valS s : Nat) : Int), .int .i64 0]) (restN s) := by
  have := Number_ok b s.size (byteOf s) (byteOf_lt s) h
  rw [byteOf_eq] at this
  exact this
theorem NumS_err (b : Nat) (s : ByteArray) (h : numS s ≠ 0) : Takes 24 #[.pointer (some ⟨b, 0, none⟩)] b s (.tuple #[.int .u64 0, .int .i64 ((numS s : Nat) : Int)]) s := by
  have := Number_err b s.size (byteOf s) (byteOf_lt s) h
  rw [byteOf_eq] at this
  exact this
theorem gN_c {lo hi : Nat} {s r : ByteArray} {v : Nat} (h : gN lo hi s = .ok (v, r)) (b : Nat) {lo' hi' : Int} (e1 : (lo : Int) = lo') (e2 : (hi : Int) = hi') :
    Takes 73 #[.agg #[.pointer (some ⟨b, 0, none⟩)], .int .u64 lo', .int .u64 hi'] b s (.int .u64 (v : Int)) r := by
  obtain ⟨h0, rfl, rfl, h1, h2⟩ := gN_ok h
  exact gNumber_ok b s _ _ _ _ (by omega) (by omega) (NumS_ok b s h0)
theorem gN_x {lo hi : Nat} {s : ByteArray} {x : Nat} (h : gN lo hi s = .error x) (b : Nat) {lo' hi' : Int} (e1 : (lo : Int) = lo') (e2 : (hi : Int) = hi') :
    ∃ r, TakesP 73 #[.agg #[.pointer (some ⟨b, 0, none⟩)], .int .u64 lo', .int .u64 hi'] b s (x : Int) r := by
  unfold gN at h
  by_cases h0 : numS s ≠ 0
  · rw [if_pos h0] at h
    obtain rfl : numS s = x := by simpa using h
    exact ⟨_, gNumber_err b s s _ _ _ _ (by omega) (NumS_err b s h0)⟩
  · rw [if_neg h0] at h
    by_cases h1 : valS s < lo ∨ hi < valS s
    · rw [if_pos h1] at h
      obtain rfl : 3 = x := by simpa using h
      exact ⟨_, gNumber_form b s _ _ _ _ (by omega) (NumS_ok b s (by omega))⟩
    · rw [if_neg h1] at h; cases h
theorem PlcS_ok (b : Nat) (s : ByteArray) (h : ¬ s.size < 20) : Takes 30 #[.pointer (some ⟨b, 0, none⟩)] b s (.tuple #[idV (numOf (byteOf s) 20), .int .i64 0]) (bytesB (s.size - 20) (dropF 20 (byteOf s))) := by
  have ha : ∀ j, j < 20 → byteOf s j = dig (numOf (byteOf s) 20) j := fun j hj => by
    have := numOf_dig (byteOf s) (byteOf_lt s) 20 j hj
    unfold dig
    rw [show 19 - j = 20 - 1 - j from by omega, this]
  have := Place_ok b s.size (numOf (byteOf s) 20) (byteOf s) (by omega) ha
  rw [byteOf_eq] at this
  exact this
theorem PlcS_err (b : Nat) (s : ByteArray) (h : s.size < 20) : Takes 30 #[.pointer (some ⟨b, 0, none⟩)] b s (.tuple #[idV 0, .int .i64 4]) s := by
  have := Place_err b s.size (byteOf s) h
  rw [byteOf_eq] at this
  exact this
theorem gI_c {s r : ByteArray} {p : Nat} (h : gI s = .ok (p, r)) (b : Nat) : Takes 75 #[.agg #[.pointer (some ⟨b, 0, none⟩)]] b s (idV p) r := by
  unfold gI at h
  by_cases h0 : s.size < 20
  · rw [if_pos h0] at h; cases h
  · rw [if_neg h0] at h
    cases h
    exact gPlace_ok b s _ _ (PlcS_ok b s h0)
theorem gI_x {s : ByteArray} {x : Nat} (h : gI s = .error x) (b : Nat) : ∃ r, TakesP 75 #[.agg #[.pointer (some ⟨b, 0, none⟩)]] b s (x : Int) r := by
  unfold gI at h
  by_cases h0 : s.size < 20
  · rw [if_pos h0] at h
    obtain rfl : 4 = x := by simpa using h
    exact ⟨_, gPlace_err b s s 0 _ (by decide) (PlcS_err b s h0)⟩
  · rw [if_neg h0] at h; cases h
theorem gP_inv {s r : ByteArray} {q : Nat × Nat} (h : gP s = .ok (q, r)) : ∃ s1, gN 0 999 s = .ok (q.1, s1) ∧ gI s1 = .ok (q.2, r) := by
  unfold gP at h
  cases h1 : gN 0 999 s with
  | error x => rw [h1] at h; cases h
  | ok a =>
    rw [h1] at h
    have h2 : (gI a.2 >>= fun z => Except.ok ((a.1, z.1), z.2)) = .ok (q, r) := h
    cases h3 : gI a.2 with
    | error x => rw [h3] at h2; cases h2
    | ok z =>
      rw [h3] at h2
      cases h2
      exact ⟨a.2, rfl, h3⟩
theorem wrap_small {v : Nat} (h : v ≤ 999) : IntKind.i64.wrap (v : Int) = (v : Int) := wrap_i64 (by omega) (by omega)
theorem gP_c {s r : ByteArray} {q : Nat × Nat} (h : gP s = .ok (q, r)) (b : Nat) : Takes 74 #[.agg #[.pointer (some ⟨b, 0, none⟩)]] b s (peerV (q.1 : Int) q.2) r := by
  obtain ⟨s1, h1, h2⟩ := gP_inv h
  have := (gN_ok h1).2.2.2.2
  exact gPeer_ok b s s1 r _ _ (wrap_small this) (gN_c h1 b rfl rfl) (gI_c h2 b)
theorem gP_x {s : ByteArray} {x : Nat} (h : gP s = .error x) (b : Nat) : ∃ r, TakesP 74 #[.agg #[.pointer (some ⟨b, 0, none⟩)]] b s (x : Int) r := by
  unfold gP at h
  cases h1 : gN 0 999 s with
  | error y =>
    rw [h1] at h
    obtain rfl : y = x := by
      have h2 : (Except.error y : Except Nat ((Nat × Nat) × ByteArray)) = .error x := h
      simpa using h2
    obtain ⟨r, hr⟩ := gN_x h1 b (lo' := 0) (hi' := 999) rfl rfl
    exact ⟨r, gPeer_num b s r _ hr trivial⟩
  | ok a =>
    rw [h1] at h
    have h2 : (gI a.2 >>= fun z => Except.ok ((a.1, z.1), z.2)) = .error x := h
    cases h3 : gI a.2 with
    | error y =>
      rw [h3] at h2
      obtain rfl : y = x := by
        have h4 : (Except.error y : Except Nat ((Nat × Nat) × ByteArray)) = .error x := h2
        simpa using h4
      obtain ⟨r, hr⟩ := gI_x h3 b
      have := (gN_ok (v := a.1) (r := a.2) h1).2.2.2.2
      exact ⟨r, gPeer_plc b s a.2 r (a.1 : Int) _ (wrap_small this) (gN_c h1 b rfl rfl) hr⟩
    | ok z => rw [h3] at h2; cases h2
end Go.Proofs.Ytijkmbebfodhdaa
