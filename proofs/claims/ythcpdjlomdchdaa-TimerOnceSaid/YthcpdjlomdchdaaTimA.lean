/-
  Timers: a timer ahead of another one; two that are swapped.
-/
import Derived.Test.YthcpdjlomdchdaaRows
import Derived.Test.YthcpdjlomdchdaaMem15
namespace Go.Proofs.Ythcpdjlomdchdaa
open Go.RowKit
set_option linter.unusedSimpArgs false
set_option linter.unusedVariables false
set_option maxHeartbeats 1000000
set_option maxRecDepth 20000

theorem undInt : Try.prog.underlying 3 = some (.int .i64) := by kernel_rfl
theorem sizeInt : (Try.prog.info? 3).map (·.size) = some 1 := by kernel_rfl
theorem zeroInt : (Try.prog.info? 3).bind (·.zero) = some (.int .i64 0) := by kernel_rfl
theorem undSl : Try.prog.underlying 48 = some (.slice 53) := by kernel_rfl
theorem sizeSl : (Try.prog.info? 48).map (·.size) = some 1 := by kernel_rfl
theorem undMp : Try.prog.underlying 47 = some (.map 3 3) := by kernel_rfl
theorem sizeMp : (Try.prog.info? 47).map (·.size) = some 1 := by kernel_rfl
noncomputable def oneFields : Array Field := match Try.prog.underlying 53 with | some (.struct fs) => fs | _ => #[]
theorem undOne : Try.prog.underlying 53 = some (.struct oneFields) := by kernel_rfl
theorem sizeOne : (Try.prog.info? 53).map (·.size) = some 2 := by kernel_rfl

theorem one_cells (x y : Int) : (Value.agg #[.int .i64 x, .int .i64 y]).cells = #[.int .i64 x, .int .i64 y] := rfl
/-- The first n pairs of a row. -/
def Rows2 (cur : Array Value) (n : Nat) (h : Nat → Int × Int) : Prop := ∀ i, i < n → cur[i * 2]? = some (.int .i64 (h i).1) ∧ cur[i * 2 + 1]? = some (.int .i64 (h i).2)
def put2 (cur : Array Value) (i : Nat) (x : Int × Int) : Array Value := (cur.setIfInBounds (i * 2) (.int .i64 x.1)).setIfInBounds (i * 2 + 1) (.int .i64 x.2)
def putH (h : Nat → Int × Int) (i : Nat) (x : Int × Int) (j : Nat) : Int × Int := if j = i then x else h j
theorem put2_size (cur : Array Value) (i : Nat) (x : Int × Int) : (put2 cur i x).size = cur.size := by simp [put2]
theorem Rows2.put {cur : Array Value} {n : Nat} {h : Nat → Int × Int} (hR : Rows2 cur n h) (i : Nat) (x : Int × Int) : Rows2 (put2 cur i x) n (putH h i x) := fun j hj => by
  obtain ⟨h1, h2⟩ := hR j hj
  have hl2 := (Array.getElem?_eq_some_iff.1 h2).1
  unfold put2 putH
  simp only [Array.getElem?_setIfInBounds, Array.size_setIfInBounds]
  by_cases hji : j = i
  · subst hji
    refine ⟨?_, ?_⟩
    · rw [if_neg (by omega), if_pos rfl, if_pos (by omega), if_pos rfl]
    · rw [if_pos rfl, if_pos (by omega), if_pos rfl]
  · refine ⟨?_, ?_⟩
    · rw [if_neg (by omega), if_neg (by omega), if_neg hji]; exact h1
    · rw [if_neg (by omega), if_neg (by omega), if_neg hji]; exact h2
theorem Rows2.mid {cur : Array Value} {n : Nat} {h : Nat → Int × Int} (hR : Rows2 cur n h) {i : Nat} (hi : i < n) : ∀ j v, (#[.int .i64 (h i).1, .int .i64 (h i).2] : Array Value).toList[j]? = some v → cur[i * 2 + j]? = some v := fun j v hj => by
  match j, hj with
  | 0, hj => rw [← Option.some.inj hj]; exact (hR i hi).1
  | 1, hj => rw [← Option.some.inj hj]; exact (hR i hi).2
  | j + 2, hj => simp at hj
/-- Is one due ahead of another one? -/
def ahB (a b : Int × Int) : Bool := decide (a.2 < b.2) || (decide (a.2 = b.2) && decide (a.1 < b.1))
/-- The timers' own block. -/
def tmV (now : Int) (hb n cap mb : Nat) : Array Value := #[.int .i64 now, .slice (some ⟨hb, 0, none⟩) n cap, .map (some mb)]
/-- A call's contract as one name. -/
def Says (f : FuncId) (args : Array Value) (v : Value) : Prop := ∀ w, Calls Try.prog f args w fun e w' => e = .returned v ∧ Ext w w'
attribute [local irreducible] wpQuiet wpList wpAnyH wpAnyG Calls

theorem ahead_c (a b : Int × Int) : Says 23 #[.agg #[.int .i64 a.1, .int .i64 a.2], .agg #[.int .i64 b.1, .int .i64 b.2]] (.bool (ahB a b)) := by
  intro w
  obtain ⟨x, hx⟩ : ∃ x, decide (a.2 < b.2) = x := ⟨_, rfl⟩
  obtain ⟨y, hy⟩ : ∃ y, (a.2 == b.2) = y := ⟨_, rfl⟩
  obtain ⟨z, hz⟩ : ∃ z, decide (a.1 < b.1) = z := ⟨_, rfl⟩
  have he : ahB a b = (x || (y && z)) := by unfold ahB; rw [hx, ← hy, ← hz]; cases (decide (a.1 < b.1)) <;> simp [Bool.beq_eq_decide_eq]
  rw [he]
  clear he
  go_enter Try.func23, Try.ntmps23
  have hm := Mem.refl w []
  go_wp2_with (with_reducible first | refine stAl ?_ | refine stBo ?_ | refine stLo ?_ | refine stSo ?_ | refine stBu ?_ | refine stBs ?_ | refine stMs ?_ | refine stAp ?_ | refine stCo ?_); refine Stop.go (wl_box (by rfl) rfl (one_cells _ _) hm ?_); clear hm; intro b1' w1 hm; simp only [Act.put, k1, k2, k3]; (try simp only [rowOf_set, k1, k2, k3, Value.cells, Act.eval, k7, k8, k9, kA, Option.getD_some] at hm)
  go_wp2_with (with_reducible first | refine stAl ?_ | refine stBo ?_ | refine stLo ?_ | refine stSo ?_ | refine stBu ?_ | refine stBs ?_ | refine stMs ?_ | refine stAp ?_ | refine stCo ?_); refine Stop.go (wl_box (by rfl) rfl (one_cells _ _) hm ?_); clear hm; intro b2' w2 hm; simp only [Act.put, k1, k2, k3]; (try simp only [rowOf_set, k1, k2, k3, Value.cells, Act.eval, k7, k8, k9, kA, Option.getD_some] at hm)
  cases x
  · cases y
    · go_wp2_with ((first | refine wpList_skip (by rfl) ?_ | (refine wlL (hm := hm) (hu := by first | exact undOne) (hi := by (try simp only [rowOf_size]); first | exact sizeOne) (h := ?_); (try simp only [Act.put, k1, k2, k3]); (try simp only [List.nil_append])) | refine wlLC (hm := hm) (hu := by first | exact undInt | exact undSl | exact undMp) (h := ?_) | (refine wlS (hm := hm) (hv := (by first | rfl | exact idV_eq _ | exact labV_eq _ _ | exact rectV_eq _ _ _ _)) (hi := by (try simp only [rowOf_size]); first | exact sizeOne) (hs := by first | (simp only [rowOf_size]; done) | rfl) (h := ?_); clear hm; intro w1 hm; (try simp only [rowOf_set, k1, k2, k3, Value.cells, Act.eval, k7, k8, k9, kA, Option.getD_some] at hm)) | (refine wlSC (hm := hm) (hi := by first | exact sizeInt | exact sizeSl | exact sizeMp) (ho := by first | decide | (simp only [rowOf_size]; omega) | (simp; done)) (h := ?_); clear hm; intro w1 hm; (try simp only [rowOf_set, k1, k2, k3, Value.cells, Act.eval, k7, k8, k9, kA, Option.getD_some] at hm)) | (refine wlA (hz := by first | exact zeroOne) (hm := hm) (h := ?_); clear hm; intro b1 w1 hm; (try simp only [rowOf_set, k1, k2, k3, Value.cells, Act.eval, k7, k8, k9, kA, Option.getD_some] at hm)) | (refine wl_box (by rfl) rfl (by first | exact idV_cells _ | exact labV_cells _ _ | exact rectV_cells _ _ _ _ | rfl) hm ?_; clear hm; intro b1 w1 hm) | (with_reducible first | refine stBs ?_ | refine stMs ?_ | refine stAp ?_ | refine stCo ?_)); (try simp only [k4, k5, k6, Act.put, k1, k2, k3]))
      go_ret
      exact ⟨rfl, hm.ext⟩
    · go_wp2_with ((first | refine wpList_skip (by rfl) ?_ | (refine wlL (hm := hm) (hu := by first | exact undOne) (hi := by (try simp only [rowOf_size]); first | exact sizeOne) (h := ?_); (try simp only [Act.put, k1, k2, k3]); (try simp only [List.nil_append])) | refine wlLC (hm := hm) (hu := by first | exact undInt | exact undSl | exact undMp) (h := ?_) | (refine wlS (hm := hm) (hv := (by first | rfl | exact idV_eq _ | exact labV_eq _ _ | exact rectV_eq _ _ _ _)) (hi := by (try simp only [rowOf_size]); first | exact sizeOne) (hs := by first | (simp only [rowOf_size]; done) | rfl) (h := ?_); clear hm; intro w1 hm; (try simp only [rowOf_set, k1, k2, k3, Value.cells, Act.eval, k7, k8, k9, kA, Option.getD_some] at hm)) | (refine wlSC (hm := hm) (hi := by first | exact sizeInt | exact sizeSl | exact sizeMp) (ho := by first | decide | (simp only [rowOf_size]; omega) | (simp; done)) (h := ?_); clear hm; intro w1 hm; (try simp only [rowOf_set, k1, k2, k3, Value.cells, Act.eval, k7, k8, k9, kA, Option.getD_some] at hm)) | (refine wlA (hz := by first | exact zeroOne) (hm := hm) (h := ?_); clear hm; intro b1 w1 hm; (try simp only [rowOf_set, k1, k2, k3, Value.cells, Act.eval, k7, k8, k9, kA, Option.getD_some] at hm)) | (refine wl_box (by rfl) rfl (by first | exact idV_cells _ | exact labV_cells _ _ | exact rectV_cells _ _ _ _ | rfl) hm ?_; clear hm; intro b1 w1 hm) | (with_reducible first | refine stBs ?_ | refine stMs ?_ | refine stAp ?_ | refine stCo ?_)); (try simp only [k4, k5, k6, Act.put, k1, k2, k3]))
      go_ret
      exact ⟨rfl, hm.ext⟩
  · go_wp2_with ((first | refine wpList_skip (by rfl) ?_ | (refine wlL (hm := hm) (hu := by first | exact undOne) (hi := by (try simp only [rowOf_size]); first | exact sizeOne) (h := ?_); (try simp only [Act.put, k1, k2, k3]); (try simp only [List.nil_append])) | refine wlLC (hm := hm) (hu := by first | exact undInt | exact undSl | exact undMp) (h := ?_) | (refine wlS (hm := hm) (hv := (by first | rfl | exact idV_eq _ | exact labV_eq _ _ | exact rectV_eq _ _ _ _)) (hi := by (try simp only [rowOf_size]); first | exact sizeOne) (hs := by first | (simp only [rowOf_size]; done) | rfl) (h := ?_); clear hm; intro w1 hm; (try simp only [rowOf_set, k1, k2, k3, Value.cells, Act.eval, k7, k8, k9, kA, Option.getD_some] at hm)) | (refine wlSC (hm := hm) (hi := by first | exact sizeInt | exact sizeSl | exact sizeMp) (ho := by first | decide | (simp only [rowOf_size]; omega) | (simp; done)) (h := ?_); clear hm; intro w1 hm; (try simp only [rowOf_set, k1, k2, k3, Value.cells, Act.eval, k7, k8, k9, kA, Option.getD_some] at hm)) | (refine wlA (hz := by first | exact zeroOne) (hm := hm) (h := ?_); clear hm; intro b1 w1 hm; (try simp only [rowOf_set, k1, k2, k3, Value.cells, Act.eval, k7, k8, k9, kA, Option.getD_some] at hm)) | (refine wl_box (by rfl) rfl (by first | exact idV_cells _ | exact labV_cells _ _ | exact rectV_cells _ _ _ _ | rfl) hm ?_; clear hm; intro b1 w1 hm) | (with_reducible first | refine stBs ?_ | refine stMs ?_ | refine stAp ?_ | refine stCo ?_)); (try simp only [k4, k5, k6, Act.put, k1, k2, k3]))
    go_ret
    exact ⟨rfl, hm.ext⟩

theorem swap_c (tb mb hb n cap clock i k : Nat) (now : Int) (es : Array MapEntry) (f : Int → Option Int) (cur : Array Value) (h : Nat → Int × Int) (hn : n ≤ cap) (hcap : n < 2 ^ 62) (hcur : cur.size = cap * 2) (hR : Rows2 cur n h) (hI : MapIs es clock f)
    (hi : i < n) (hk : k < n) (fi : f (h i).1 = some (i : Int)) (fk : f (h k).1 = some (k : Int)) (w : World) (hm : Mem w [tb, mb, hb] [(tb, .cells (tmV now hb n cap mb) 50 (0, 0)), (mb, .map es clock), (hb, .cells cur 53 (0, 0))] w) :
    Calls Try.prog 22 #[.pointer (some ⟨tb, 0, none⟩), .int .i64 (i : Int), .int .i64 (k : Int)] w fun e w' => e = .returned (.tuple #[]) ∧ ∃ es', MapIs es' clock (putM (putM f (h k).1 i) (h i).1 k) ∧
      Mem w [tb, mb, hb] [(tb, .cells (tmV now hb n cap mb) 50 (0, 0)), (mb, .map es' clock), (hb, .cells (put2 (put2 cur i (h k)) k (h i)) 53 (0, 0))] w' := by
  unfold tmV at *
  go_enter Try.func22, Try.ntmps22
  go_wp2_with (with_reducible first | refine stAl ?_ | refine stBo ?_ | refine stLo ?_ | refine stSo ?_ | refine stBu ?_ | refine stBs ?_ | refine stMs ?_ | refine stAp ?_ | refine stCo ?_)
  refine wp_region_G (C := [(100, Mem w [tb, mb, hb] [(tb, .cells #[.int .i64 now, .slice (some ⟨hb, 0, none⟩) n cap, .map (some mb)] 50 (0, 0)), (mb, .map es clock)]), (25, Mem w [tb, mb, hb] [(tb, .cells #[.int .i64 now, .slice (some ⟨hb, 0, none⟩) n cap, .map (some mb)] 50 (0, 0)), (mb, .map es clock), (hb, .cells cur 53 (0, 0))])]) (by kernel_rfl) ?_
  replace hm := hm.drew
  have hS : Held [(100, Mem w [tb, mb, hb] [(tb, .cells #[.int .i64 now, .slice (some ⟨hb, 0, none⟩) n cap, .map (some mb)] 50 (0, 0)), (mb, .map es clock)]), (25, Mem w [tb, mb, hb] [(tb, .cells #[.int .i64 now, .slice (some ⟨hb, 0, none⟩) n cap, .map (some mb)] 50 (0, 0)), (mb, .map es clock), (hb, .cells cur 53 (0, 0))])] [] w.drew := Held.cons (hm.erase 2) (Held.cons hm (Held.nil _ _))
  refine wgS (i := 0) 0 (hS := hS) (h := ?_)
  simp only [k4, k5, k6, Act.put, k1, k2, k3]
  refine wgS (i := 1) 0 (hS := hS) (h := ?_)
  simp only [k4, k5, k6, Act.put, k1, k2, k3]
  refine wgS (i := 2) 0 (hS := hS) (h := ?_)
  simp only [k4, k5, k6, Act.put, k1, k2, k3]
  refine wgS (i := 3) 0 (hS := hS) (h1 := ld_cell (i := 0) (off := 1) rfl rfl rfl undSl rfl) (h := ?_)
  simp only [k4, k5, k6, Act.put, k1, k2, k3]
  refine wgS (i := 4) 0 (hS := hS) (h := ?_)
  simp only [k4, k5, k6, Act.put, k1, k2, k3]
  refine wgS (i := 5) 0 (hS := hS) (h := ?_)
  simp only [k4, k5, k6, Act.put, k1, k2, k3]
  refine wgS (i := 6) 0 (hS := hS) (h := ?_)
  simp only [k4, k5, k6, Act.put, k1, k2, k3]
  refine wgS (i := 7) 0 (hS := hS) (h := ?_)
  simp only [k4, k5, k6, Act.put, k1, k2, k3]
  refine wgS (i := 8) 0 (hS := hS) (h1 := ld_cell (i := 0) (off := 1) rfl rfl rfl undSl rfl) (h := ?_)
  simp only [k4, k5, k6, Act.put, k1, k2, k3]
  refine wgS (i := 9) 0 (hS := hS) (h := ?_)
  simp only [k4, k5, k6, Act.put, k1, k2, k3]
  refine wgS (i := 10) 0 (hS := hS) (h := ?_)
  simp only [k4, k5, k6, Act.put, k1, k2, k3]
  refine wgS (i := 11) 0 (hS := hS) (h := ?_)
  simp only [k4, k5, k6, Act.put, k1, k2, k3]
  refine wgS (i := 12) 0 (hS := hS) (h := ?_)
  simp only [k4, k5, k6, Act.put, k1, k2, k3]
  refine wgS (i := 13) 0 (hS := hS) (h1 := ld_cell (i := 0) (off := 1) rfl rfl rfl undSl rfl) (h := ?_)
  simp only [k4, k5, k6, Act.put, k1, k2, k3]
  refine wgS (i := 14) 0 (hS := hS) (h := ?_)
  simp only [k4, k5, k6, Act.put, k1, k2, k3]
  refine wgS (i := 15) 0 (hS := hS) (h := ?_)
  simp only [k4, k5, k6, Act.put, k1, k2, k3]
  refine wgS (i := 16) 1 (hS := hS) (h1 := ld_mid (i := 2) (off := k * 2) rfl rfl (hR.mid hk) undOne rfl sizeOne) (h := ?_)
  simp only [k4, k5, k6, Act.put, k1, k2, k3]
  refine wgS (i := 17) 0 (hS := hS) (h := ?_)
  simp only [k4, k5, k6, Act.put, k1, k2, k3]
  refine wgS (i := 18) 0 (hS := hS) (h := ?_)
  simp only [k4, k5, k6, Act.put, k1, k2, k3]
  refine wgS (i := 19) 0 (hS := hS) (h := ?_)
  simp only [k4, k5, k6, Act.put, k1, k2, k3]
  refine wgS (i := 20) 0 (hS := hS) (h1 := ld_cell (i := 0) (off := 1) rfl rfl rfl undSl rfl) (h := ?_)
  simp only [k4, k5, k6, Act.put, k1, k2, k3]
  refine wgS (i := 21) 0 (hS := hS) (h := ?_)
  simp only [k4, k5, k6, Act.put, k1, k2, k3]
  refine wgS (i := 22) 0 (hS := hS) (h := ?_)
  simp only [k4, k5, k6, Act.put, k1, k2, k3]
  refine wgS (i := 23) 1 (hS := hS) (h1 := ld_mid (i := 2) (off := i * 2) rfl rfl (hR.mid hi) undOne rfl sizeOne) (h := ?_)
  simp only [k4, k5, k6, Act.put, k1, k2, k3]
  refine wgS (i := 24) 0 (hS := hS) (h := ?_)
  simp only [k4, k5, k6, Act.put, k1, k2, k3]
  refine wgO (i := 25) (done := [25]) (h := fun K' hK => ?_)
  refine ow_store2 (i := 2) hm rfl rfl rfl rfl rfl sizeOne (by omega) ?_
  clear hm hS
  intro w2 hm
  have hS := Held.cons (m := 100) (done := [25]) (hm.erase 2) (Held.skip (m := 25) (S := Mem w [tb, mb, hb] [(tb, .cells #[.int .i64 now, .slice (some ⟨hb, 0, none⟩) n cap, .map (some mb)] 50 (0, 0)), (mb, .map es clock), (hb, .cells cur 53 (0, 0))]) rfl (Held.nil _ _))
  refine hK.out _ _ hS ?_
  clear hK K'
  simp only [k4, k5, k6, Act.put, k1, k2, k3]
  refine wgS (i := 26) 0 (hS := hS) (h := ?_)
  simp only [k4, k5, k6, Act.put, k1, k2, k3]
  refine wgO (i := 27) (done := [25]) (h := fun K' hK => ?_)
  refine ow_store2 (i := 2) hm rfl rfl rfl rfl rfl sizeOne (by simp; omega) ?_
  clear hm hS
  intro w3 hm
  have hS := Held.cons (m := 100) (done := [25]) (hm.erase 2) (Held.skip (m := 25) (S := Mem w [tb, mb, hb] [(tb, .cells #[.int .i64 now, .slice (some ⟨hb, 0, none⟩) n cap, .map (some mb)] 50 (0, 0)), (mb, .map es clock), (hb, .cells cur 53 (0, 0))]) rfl (Held.nil _ _))
  refine hK.out _ _ hS ?_
  clear hK K' hS
  simp only [k4, k5, k6, Act.put, k1, k2, k3]
  refine wgE (h := ?_)
  have hR2 := (hR.put i (h k)).put k (h i)
  have ei : putH (putH h i (h k)) k (h i) i = h k := by unfold putH; by_cases hik : i = k <;> simp [hik]
  have ek : putH (putH h i (h k)) k (h i) k = h i := by unfold putH; simp
  have r1 := (hR2 i hi).1
  have r2 := (hR2 k hk).1
  rw [ei] at r1
  rw [ek] at r2
  clear ei ek hR2
  have hsz : (put2 (put2 cur i (h k)) k (h i)).size = cap * 2 := by rw [put2_size, put2_size]; exact hcur
  change Mem w _ [_, _, (hb, .cells (put2 (put2 cur i (h k)) k (h i)) _ _)] _ at hm
  obtain ⟨cur2, hc2⟩ : ∃ c, put2 (put2 cur i (h k)) k (h i) = c := ⟨_, rfl⟩
  rw [hc2] at hm r1 r2 hsz
  clear hR
  obtain ⟨q1, hq1⟩ : ∃ q1, (h k).1 = q1 := ⟨_, rfl⟩
  obtain ⟨q2, hq2⟩ : ∃ q2, (h i).1 = q2 := ⟨_, rfl⟩
  rw [hq1] at fk r1 ⊢
  rw [hq2] at fi r2 ⊢
  obtain ⟨j1, s1, hj1⟩ : ∃ j s, es[j]? = some (⟨.int .i64 q1, .int .i64 (k : Int), s⟩ : MapEntry) := by
    rcases hI.find q1 with ⟨h1, _, _⟩ | ⟨v, j, s, h1, _, h3⟩
    · rw [fk] at h1; cases h1
    · rw [fk] at h1; obtain rfl : (k : Int) = v := Option.some.inj h1; exact ⟨j, s, h3⟩
  have hI1 := hI.set hj1 (i : Int) (fun e => { e with val := .int .i64 (i : Int) }) rfl
  have fi1 : putM f q1 (i : Int) q2 = some (i : Int) := by unfold putM; split <;> simp [fi]
  go_wp2_with (with_reducible first | refine stAl ?_ | refine stBo ?_ | refine stLo ?_ | refine stSo ?_ | refine stBu ?_ | refine stBs ?_ | refine stMs ?_ | refine stAp ?_ | refine stCo ?_)
  refine wp_region_G (C := [(100, Mem w [tb, mb, hb] [(tb, .cells #[.int .i64 now, .slice (some ⟨hb, 0, none⟩) n cap, .map (some mb)] 50 (0, 0)), (hb, .cells cur2 53 (0, 0))])]) (by kernel_rfl) ?_
  replace hm := hm.drew
  have hS : Held [(100, Mem w [tb, mb, hb] [(tb, .cells #[.int .i64 now, .slice (some ⟨hb, 0, none⟩) n cap, .map (some mb)] 50 (0, 0)), (hb, .cells cur2 53 (0, 0))])] [] w3.drew := Held.cons (hm.erase 1) (Held.nil _ _)
  refine wgS (i := 0) 0 (hS := hS) (h := ?_)
  simp only [k4, k5, k6, Act.put, k1, k2, k3]
  refine wgS (i := 1) 0 (hS := hS) (h := ?_)
  simp only [k4, k5, k6, Act.put, k1, k2, k3]
  refine wgS (i := 2) 0 (hS := hS) (h := ?_)
  simp only [k4, k5, k6, Act.put, k1, k2, k3]
  refine wgS (i := 3) 0 (hS := hS) (h1 := ld_cell (i := 0) (off := 2) rfl rfl rfl undMp rfl) (h := ?_)
  simp only [k4, k5, k6, Act.put, k1, k2, k3]
  refine wgS (i := 4) 0 (hS := hS) (h := ?_)
  simp only [k4, k5, k6, Act.put, k1, k2, k3]
  refine wgS (i := 5) 0 (hS := hS) (h := ?_)
  simp only [k4, k5, k6, Act.put, k1, k2, k3]
  refine wgS (i := 6) 0 (hS := hS) (h := ?_)
  simp only [k4, k5, k6, Act.put, k1, k2, k3]
  refine wgS (i := 7) 0 (hS := hS) (h1 := ld_cell (i := 0) (off := 1) rfl rfl rfl undSl rfl) (h := ?_)
  simp only [k4, k5, k6, Act.put, k1, k2, k3]
  refine wgS (i := 8) 0 (hS := hS) (h := ?_)
  simp only [k4, k5, k6, Act.put, k1, k2, k3]
  refine wgS (i := 9) 0 (hS := hS) (h := ?_)
  simp only [k4, k5, k6, Act.put, k1, k2, k3]
  refine wgS (i := 10) 0 (hS := hS) (h := ?_)
  simp only [k4, k5, k6, Act.put, k1, k2, k3]
  refine wgS (i := 11) 0 (hS := hS) (h1 := ld_cell (i := 1) (off := i * 2) rfl rfl r1 undInt rfl) (h := ?_)
  simp only [k4, k5, k6, Act.put, k1, k2, k3]
  refine wgS (i := 12) 0 (hS := hS) (h := ?_)
  simp only [k4, k5, k6, Act.put, k1, k2, k3]
  refine wgS (i := 13) 0 (hS := hS) (h := ?_)
  simp only [k4, k5, k6, Act.put, k1, k2, k3]
  refine wgS (i := 14) 0 (hS := hS) (h := ?_)
  simp only [k4, k5, k6, Act.put, k1, k2, k3]
  refine wgS (i := 15) 0 (hS := hS) (h1 := ld_cell (i := 0) (off := 2) rfl rfl rfl undMp rfl) (h := ?_)
  simp only [k4, k5, k6, Act.put, k1, k2, k3]
  refine wgS (i := 16) 0 (hS := hS) (h := ?_)
  simp only [k4, k5, k6, Act.put, k1, k2, k3]
  refine wgS (i := 17) 0 (hS := hS) (h := ?_)
  simp only [k4, k5, k6, Act.put, k1, k2, k3]
  refine wgS (i := 18) 0 (hS := hS) (h := ?_)
  simp only [k4, k5, k6, Act.put, k1, k2, k3]
  refine wgS (i := 19) 0 (hS := hS) (h1 := ld_cell (i := 0) (off := 1) rfl rfl rfl undSl rfl) (h := ?_)
  simp only [k4, k5, k6, Act.put, k1, k2, k3]
  refine wgS (i := 20) 0 (hS := hS) (h := ?_)
  simp only [k4, k5, k6, Act.put, k1, k2, k3]
  refine wgS (i := 21) 0 (hS := hS) (h := ?_)
  simp only [k4, k5, k6, Act.put, k1, k2, k3]
  refine wgS (i := 22) 0 (hS := hS) (h := ?_)
  simp only [k4, k5, k6, Act.put, k1, k2, k3]
  refine wgS (i := 23) 0 (hS := hS) (h1 := ld_cell (i := 1) (off := k * 2) rfl rfl r2 undInt rfl) (h := ?_)
  simp only [k4, k5, k6, Act.put, k1, k2, k3]
  refine wgS (i := 24) 0 (hS := hS) (h := ?_)
  simp only [k4, k5, k6, Act.put, k1, k2, k3]
  refine wgS (i := 25) 0 (hS := hS) (h := ?_)
  simp only [k4, k5, k6, Act.put, k1, k2, k3]
  refine wgO (i := 26) (done := []) (h := fun K' hK => ?_)
  refine ow_value (ld_entry undMp undInt hI hj1 rfl rfl (hm.heap (i := 1) rfl)) (hK.out _ _ hS ?_)
  clear hK K'
  simp only [k4, k5, k6, Act.put, k1, k2, k3]
  refine wgS (i := 27) 0 (hS := hS) (h := ?_)
  simp only [k4, k5, k6, Act.put, k1, k2, k3]
  refine wgO (i := 28) (done := []) (h := fun K' hK => ?_)
  refine ow_entryStore (i := 1) hm rfl hI hj1 rfl rfl rfl ?_
  clear hm hS
  intro w4 hm
  have hS := Held.cons (m := 100) (done := []) (hm.erase 1) (Held.nil _ _)
  refine hK.out _ _ hS ?_
  clear hK K' hI
  simp only [k4, k5, k6, Act.put, k1, k2, k3]
  generalize es.modify j1 _ = es1 at hm hI1
  obtain ⟨j2, s2, hj2⟩ : ∃ j s, es1[j]? = some (⟨.int .i64 q2, .int .i64 (i : Int), s⟩ : MapEntry) := by
    rcases hI1.find q2 with ⟨h1, _, _⟩ | ⟨v, j, s, h1, _, h3⟩
    · rw [fi1] at h1; cases h1
    · rw [fi1] at h1; obtain rfl : (i : Int) = v := Option.some.inj h1; exact ⟨j, s, h3⟩
  have hI2 := hI1.set hj2 (k : Int) (fun e => { e with val := .int .i64 (k : Int) }) rfl
  refine wgO (i := 29) (done := []) (h := fun K' hK => ?_)
  refine ow_value (ld_entry undMp undInt hI1 hj2 rfl rfl (hm.heap (i := 1) rfl)) (hK.out _ _ hS ?_)
  clear hK K'
  simp only [k4, k5, k6, Act.put, k1, k2, k3]
  refine wgS (i := 30) 0 (hS := hS) (h := ?_)
  simp only [k4, k5, k6, Act.put, k1, k2, k3]
  refine wgO (i := 31) (done := []) (h := fun K' hK => ?_)
  refine ow_entryStore (i := 1) hm rfl hI1 hj2 rfl rfl rfl ?_
  clear hm hS
  intro w5 hm
  have hS := Held.cons (m := 100) (done := []) (hm.erase 1) (Held.nil _ _)
  refine hK.out _ _ hS ?_
  clear hK K' hS
  simp only [k4, k5, k6, Act.put, k1, k2, k3]
  refine wgE (h := ?_)
  go_wp2_with (with_reducible first | refine stAl ?_ | refine stBo ?_ | refine stLo ?_ | refine stSo ?_ | refine stBu ?_ | refine stBs ?_ | refine stMs ?_ | refine stAp ?_ | refine stCo ?_)
  go_end0
  subst hc2 hq1 hq2
  exact ⟨rfl, _, hI2, hm⟩
end Go.Proofs.Ythcpdjlomdchdaa
