/-
  Timers: a row of times is set; two rows appended; it plays no part in how many steps a time is come to.
-/
import Derived.Test.YthcpdjlomdchdaaTimI
import Derived.Deep.Upon
namespace Go.Proofs.Ythcpdjlomdchdaa
open Go.RowKit
set_option linter.unusedSimpArgs false
set_option linter.unusedVariables false
set_option maxHeartbeats 1000000
set_option maxRecDepth 20000

open Classical in
noncomputable def cnt (x : Nat × Obj) (L : List (Nat × Obj)) : Nat := L.count x
open Classical in
noncomputable def cnt1 (x y : Nat × Obj) : Nat := if y = x then 1 else 0
theorem cnt_nil (x : Nat × Obj) : cnt x [] = 0 := by unfold cnt; simp
open Classical in
theorem cnt_append (x : Nat × Obj) (L M : List (Nat × Obj)) : cnt x (L ++ M) = cnt x L + cnt x M := by unfold cnt; exact List.count_append
open Classical in
theorem cnt_cons (x y : Nat × Obj) (L : List (Nat × Obj)) : cnt x (y :: L) = cnt1 x y + cnt x L := by
  unfold cnt cnt1
  rw [List.count_cons]
  simp only [beq_iff_eq]
  split <;> omega
theorem perm_of {L M : List (Nat × Obj)} (h : ∀ x, cnt x L = cnt x M) : L.Perm M := by
  classical
  exact List.perm_iff_count.2 h
/-- The timers of a row of times, their places the ids. -/
def setsL (z : Nat → Int) : Nat → Tl
  | 0 => []
  | i + 1 => if z i < 0 then setsL z i else setL (i : Int) (z i) (setsL z i)
theorem mem_setsL {z : Nat → Int} : ∀ {n : Nat} {x : Int × Int}, x ∈ setsL z n ↔ ∃ i : Nat, i < n ∧ x = ((i : Int), z i) ∧ ¬ z i < 0
  | 0, x => by unfold setsL; simp
  | n + 1, x => by
    unfold setsL
    split
    · rename_i hz
      rw [mem_setsL]
      constructor
      · rintro ⟨i, hi, h1, h2⟩
        exact ⟨i, by omega, h1, h2⟩
      · rintro ⟨i, hi, h1, h2⟩
        have : i ≠ n := fun e => by subst e; exact h2 hz
        exact ⟨i, by omega, h1, h2⟩
    · rename_i hz
      rw [mem_setL, mem_setsL]
      constructor
      · rintro (⟨⟨i, hi, h1, h2⟩, _⟩ | h)
        · exact ⟨i, by omega, h1, h2⟩
        · exact ⟨n, by omega, h, hz⟩
      · rintro ⟨i, hi, h1, h2⟩
        by_cases hin : i = n
        · subst hin; exact .inr h1
        · refine .inl ⟨⟨i, by omega, h1, h2⟩, ?_⟩
          rw [h1]
          show (i : Int) ≠ (n : Int)
          omega
theorem setsL_length (z : Nat → Int) : ∀ n, (setsL z n).length ≤ n
  | 0 => by unfold setsL; simp
  | n + 1 => by
    have ih := setsL_length z n
    unfold setsL
    split
    · omega
    · unfold setL
      rw [List.length_append]
      have := (out_sub (n : Int) (setsL z n)).length_le
      simp only [List.length_singleton]
      omega
attribute [local irreducible] wpQuiet wpList wpAnyH wpAnyG Calls

theorem set_ok (c : Option Addr) (n cap : Nat) (z : Nat → Int) (hn : n ≤ 100) (w : World) (h : IntsV w c n z) :
    Calls Try.prog 20 #[.slice c n cap] w fun e w' => Hid (∃ tb B, e = .returned (.pointer (some ⟨tb, 0, none⟩)) ∧ TmIs tb 0 (setsL z n) B ∧ Mem w [] B w') := by
  have H := hid h
  clear h
  go_enter Try.func20, Try.ntmps20
  go_wp2_with ((first | refine wpList_skip (by rfl) ?_ | (refine wlL (hm := hm) (hu := by first | exact undOne) (hi := by (try simp only [rowOf_size]); first | exact sizeOne) (h := ?_); (try simp only [Act.put, k1, k2, k3]); (try simp only [List.nil_append])) | refine wlLC (hm := hm) (hu := by first | exact undInt | exact undSl | exact undMp) (h := ?_) | (refine wlS (hm := hm) (hv := (by first | rfl | exact idV_eq _ | exact labV_eq _ _ | exact rectV_eq _ _ _ _)) (hi := by (try simp only [rowOf_size]); first | exact sizeOne) (hs := by first | (simp only [rowOf_size]; done) | rfl) (h := ?_); clear hm; intro w1 hm; (try simp only [rowOf_set, k1, k2, k3, Value.cells, Act.eval, k7, k8, k9, kA, Option.getD_some] at hm)) | (refine wlSC (hm := hm) (hi := by first | exact sizeInt | exact sizeSl | exact sizeMp) (ho := by first | decide | (simp only [rowOf_size]; omega) | (simp; done)) (h := ?_); clear hm; intro w1 hm; (try simp only [rowOf_set, k1, k2, k3, Value.cells, Act.eval, k7, k8, k9, kA, Option.getD_some] at hm)) | (refine wlA (hz := by first | exact zeroOne) (hm := hm) (h := ?_); clear hm; intro b1 w1 hm; (try simp only [rowOf_set, k1, k2, k3, Value.cells, Act.eval, k7, k8, k9, kA, Option.getD_some] at hm)) | (refine wl_box (by rfl) rfl (by first | exact idV_cells _ | exact labV_cells _ _ | exact rectV_cells _ _ _ _ | rfl) hm ?_; clear hm; intro b1 w1 hm) | (go_at_call 19; refine (timed_c _).mono ?_; rintro e w1 ⟨rfl, hx⟩; replace hm := hm.call hx; clear hx) | (with_reducible first | refine stBs ?_ | refine stMs ?_ | refine stAp ?_ | refine stCo ?_)); (try simp only [k4, k5, k6, Act.put, k1, k2, k3]))
  refine (new_c _).mono ?_
  rintro e w1 ⟨tb, mb, rfl, hm⟩
  have hT := TmIs.fresh tb mb
  generalize ([(tb, _), (mb, _)] : List (Nat × Obj)) = B at hT hm
  go_wp2_with ((first | refine wpList_skip (by rfl) ?_ | (refine wlL (hm := hm) (hu := by first | exact undOne) (hi := by (try simp only [rowOf_size]); first | exact sizeOne) (h := ?_); (try simp only [Act.put, k1, k2, k3]); (try simp only [List.nil_append])) | refine wlLC (hm := hm) (hu := by first | exact undInt | exact undSl | exact undMp) (h := ?_) | (refine wlS (hm := hm) (hv := (by first | rfl | exact idV_eq _ | exact labV_eq _ _ | exact rectV_eq _ _ _ _)) (hi := by (try simp only [rowOf_size]); first | exact sizeOne) (hs := by first | (simp only [rowOf_size]; done) | rfl) (h := ?_); clear hm; intro w1 hm; (try simp only [rowOf_set, k1, k2, k3, Value.cells, Act.eval, k7, k8, k9, kA, Option.getD_some] at hm)) | (refine wlSC (hm := hm) (hi := by first | exact sizeInt | exact sizeSl | exact sizeMp) (ho := by first | decide | (simp only [rowOf_size]; omega) | (simp; done)) (h := ?_); clear hm; intro w1 hm; (try simp only [rowOf_set, k1, k2, k3, Value.cells, Act.eval, k7, k8, k9, kA, Option.getD_some] at hm)) | (refine wlA (hz := by first | exact zeroOne) (hm := hm) (h := ?_); clear hm; intro b1 w1 hm; (try simp only [rowOf_set, k1, k2, k3, Value.cells, Act.eval, k7, k8, k9, kA, Option.getD_some] at hm)) | (refine wl_box (by rfl) rfl (by first | exact idV_cells _ | exact labV_cells _ _ | exact rectV_cells _ _ _ _ | rfl) hm ?_; clear hm; intro b1 w1 hm) | (go_at_call 19; refine (timed_c _).mono ?_; rintro e w1 ⟨rfl, hx⟩; replace hm := hm.call hx; clear hx) | (with_reducible first | refine stBs ?_ | refine stMs ?_ | refine stAp ?_ | refine stCo ?_)); (try simp only [k4, k5, k6, Act.put, k1, k2, k3]))
  go_loopw [4] (fun vi wr => ∃ (i : Nat) (B' : List (Nat × Obj)), i ≤ n ∧ vi = .int .i64 (i : Int) ∧ TmIs tb 0 (setsL z i) B' ∧ Mem w [] B' wr) (fun vi _ => (n - intOf vi).toNat)
  case atStart => exact ⟨0, B, by omega, rfl, hT, hm⟩
  case round =>
    clear hm hT
    obtain ⟨i, B', hi, rfl, hT, hm⟩ := hrel
    by_cases hin : i < n
    · obtain ⟨a, rfl, hcell⟩ := H.out i hin
      have hcell' := cell_old hm hcell
      have e1 : (i : Int) < (n : Int) := by omega
      have e2 : (0 : Int) ≤ (i : Int) := by omega
      have g1 : IntKind.i64.wrap ((i : Int) + 1) = (i : Int) + 1 := wrap_i64 (by omega) (by omega)
      obtain ⟨x, hx⟩ : ∃ x, z i = x := ⟨_, rfl⟩
      rw [hx] at hcell'
      have hl := setsL_length z i
      have hno : ∀ y ∈ setsL z i, y.1 ≠ (i : Int) := fun y hy => by
        obtain ⟨j, hj, rfl, _⟩ := mem_setsL.1 hy
        show (j : Int) ≠ (i : Int)
        omega
      have hcx := hid hcell'
      clear hcell hcell'
      go_wp2_with (with_reducible first | refine stAl ?_ | refine stBo ?_ | refine stLo ?_ | refine stSo ?_ | refine stBu ?_ | refine stBs ?_ | refine stMs ?_ | refine stAp ?_ | refine stCo ?_)
      refine Stop.go (wl_loadOld (v := .int .i64 x) (by rfl) rfl (by first | exact hcx.out | simpa using hcx.out) undInt rfl ?_); simp only [Act.put, k1, k2, k3]
      go_wp2_with ((first | refine wpList_skip (by rfl) ?_ | (refine wlL (hm := hm) (hu := by first | exact undOne) (hi := by (try simp only [rowOf_size]); first | exact sizeOne) (h := ?_); (try simp only [Act.put, k1, k2, k3]); (try simp only [List.nil_append])) | refine wlLC (hm := hm) (hu := by first | exact undInt | exact undSl | exact undMp) (h := ?_) | (refine wlS (hm := hm) (hv := (by first | rfl | exact idV_eq _ | exact labV_eq _ _ | exact rectV_eq _ _ _ _)) (hi := by (try simp only [rowOf_size]); first | exact sizeOne) (hs := by first | (simp only [rowOf_size]; done) | rfl) (h := ?_); clear hm; intro w1 hm; (try simp only [rowOf_set, k1, k2, k3, Value.cells, Act.eval, k7, k8, k9, kA, Option.getD_some] at hm)) | (refine wlSC (hm := hm) (hi := by first | exact sizeInt | exact sizeSl | exact sizeMp) (ho := by first | decide | (simp only [rowOf_size]; omega) | (simp; done)) (h := ?_); clear hm; intro w1 hm; (try simp only [rowOf_set, k1, k2, k3, Value.cells, Act.eval, k7, k8, k9, kA, Option.getD_some] at hm)) | (refine wlA (hz := by first | exact zeroOne) (hm := hm) (h := ?_); clear hm; intro b1 w1 hm; (try simp only [rowOf_set, k1, k2, k3, Value.cells, Act.eval, k7, k8, k9, kA, Option.getD_some] at hm)) | (refine wl_box (by rfl) rfl (by first | exact idV_cells _ | exact labV_cells _ _ | exact rectV_cells _ _ _ _ | rfl) hm ?_; clear hm; intro b1 w1 hm) | (go_at_call 19; refine (timed_c _).mono ?_; rintro e w1 ⟨rfl, hx⟩; replace hm := hm.call hx; clear hx) | (with_reducible first | refine stBs ?_ | refine stMs ?_ | refine stAp ?_ | refine stCo ?_)); (try simp only [k4, k5, k6, Act.put, k1, k2, k3]))
      by_cases hx0 : x < 0
      · refine ((tm_set_arg tb 0 (i : Int) x _ hx0).use (A := []) hT hm).mono ?_
        rintro e w5 ⟨rfl, B3, hT3, hm3⟩
        go_wp2_with ((first | refine wpList_skip (by rfl) ?_ | (refine wlL (hm := hm) (hu := by first | exact undOne) (hi := by (try simp only [rowOf_size]); first | exact sizeOne) (h := ?_); (try simp only [Act.put, k1, k2, k3]); (try simp only [List.nil_append])) | refine wlLC (hm := hm) (hu := by first | exact undInt | exact undSl | exact undMp) (h := ?_) | (refine wlS (hm := hm) (hv := (by first | rfl | exact idV_eq _ | exact labV_eq _ _ | exact rectV_eq _ _ _ _)) (hi := by (try simp only [rowOf_size]); first | exact sizeOne) (hs := by first | (simp only [rowOf_size]; done) | rfl) (h := ?_); clear hm; intro w1 hm; (try simp only [rowOf_set, k1, k2, k3, Value.cells, Act.eval, k7, k8, k9, kA, Option.getD_some] at hm)) | (refine wlSC (hm := hm) (hi := by first | exact sizeInt | exact sizeSl | exact sizeMp) (ho := by first | decide | (simp only [rowOf_size]; omega) | (simp; done)) (h := ?_); clear hm; intro w1 hm; (try simp only [rowOf_set, k1, k2, k3, Value.cells, Act.eval, k7, k8, k9, kA, Option.getD_some] at hm)) | (refine wlA (hz := by first | exact zeroOne) (hm := hm) (h := ?_); clear hm; intro b1 w1 hm; (try simp only [rowOf_set, k1, k2, k3, Value.cells, Act.eval, k7, k8, k9, kA, Option.getD_some] at hm)) | (refine wl_box (by rfl) rfl (by first | exact idV_cells _ | exact labV_cells _ _ | exact rectV_cells _ _ _ _ | rfl) hm ?_; clear hm; intro b1 w1 hm) | (go_at_call 19; refine (timed_c _).mono ?_; rintro e w1 ⟨rfl, hx⟩; replace hm := hm.call hx; clear hx) | (with_reducible first | refine stBs ?_ | refine stMs ?_ | refine stAp ?_ | refine stCo ?_)); (try simp only [k4, k5, k6, Act.put, k1, k2, k3]))
        go_roundw
        case rel => exact ⟨i + 1, B3, by omega, by go_num, by unfold setsL; rw [if_pos (by rw [hx]; exact hx0)]; exact hT3, hm3⟩
        case measure => (simp [intOf]; try omega)
      · refine ((tm_set tb 0 (i : Int) x _ hx0 (.inr (by omega))).use (A := []) hT hm).mono ?_
        rintro e w5 ⟨rfl, B3, hT3, hm3⟩
        go_wp2_with ((first | refine wpList_skip (by rfl) ?_ | (refine wlL (hm := hm) (hu := by first | exact undOne) (hi := by (try simp only [rowOf_size]); first | exact sizeOne) (h := ?_); (try simp only [Act.put, k1, k2, k3]); (try simp only [List.nil_append])) | refine wlLC (hm := hm) (hu := by first | exact undInt | exact undSl | exact undMp) (h := ?_) | (refine wlS (hm := hm) (hv := (by first | rfl | exact idV_eq _ | exact labV_eq _ _ | exact rectV_eq _ _ _ _)) (hi := by (try simp only [rowOf_size]); first | exact sizeOne) (hs := by first | (simp only [rowOf_size]; done) | rfl) (h := ?_); clear hm; intro w1 hm; (try simp only [rowOf_set, k1, k2, k3, Value.cells, Act.eval, k7, k8, k9, kA, Option.getD_some] at hm)) | (refine wlSC (hm := hm) (hi := by first | exact sizeInt | exact sizeSl | exact sizeMp) (ho := by first | decide | (simp only [rowOf_size]; omega) | (simp; done)) (h := ?_); clear hm; intro w1 hm; (try simp only [rowOf_set, k1, k2, k3, Value.cells, Act.eval, k7, k8, k9, kA, Option.getD_some] at hm)) | (refine wlA (hz := by first | exact zeroOne) (hm := hm) (h := ?_); clear hm; intro b1 w1 hm; (try simp only [rowOf_set, k1, k2, k3, Value.cells, Act.eval, k7, k8, k9, kA, Option.getD_some] at hm)) | (refine wl_box (by rfl) rfl (by first | exact idV_cells _ | exact labV_cells _ _ | exact rectV_cells _ _ _ _ | rfl) hm ?_; clear hm; intro b1 w1 hm) | (go_at_call 19; refine (timed_c _).mono ?_; rintro e w1 ⟨rfl, hx⟩; replace hm := hm.call hx; clear hx) | (with_reducible first | refine stBs ?_ | refine stMs ?_ | refine stAp ?_ | refine stCo ?_)); (try simp only [k4, k5, k6, Act.put, k1, k2, k3]))
        go_roundw
        case rel => exact ⟨i + 1, B3, by omega, by go_num, by unfold setsL; rw [if_neg (by rw [hx]; omega), hx]; exact hT3, hm3⟩
        case measure => (simp [intOf]; try omega)
    · obtain rfl : i = n := by omega
      have e1 : ¬ (i : Int) < (i : Int) := by omega
      go_wp2_with ((first | refine wpList_skip (by rfl) ?_ | (refine wlL (hm := hm) (hu := by first | exact undOne) (hi := by (try simp only [rowOf_size]); first | exact sizeOne) (h := ?_); (try simp only [Act.put, k1, k2, k3]); (try simp only [List.nil_append])) | refine wlLC (hm := hm) (hu := by first | exact undInt | exact undSl | exact undMp) (h := ?_) | (refine wlS (hm := hm) (hv := (by first | rfl | exact idV_eq _ | exact labV_eq _ _ | exact rectV_eq _ _ _ _)) (hi := by (try simp only [rowOf_size]); first | exact sizeOne) (hs := by first | (simp only [rowOf_size]; done) | rfl) (h := ?_); clear hm; intro w1 hm; (try simp only [rowOf_set, k1, k2, k3, Value.cells, Act.eval, k7, k8, k9, kA, Option.getD_some] at hm)) | (refine wlSC (hm := hm) (hi := by first | exact sizeInt | exact sizeSl | exact sizeMp) (ho := by first | decide | (simp only [rowOf_size]; omega) | (simp; done)) (h := ?_); clear hm; intro w1 hm; (try simp only [rowOf_set, k1, k2, k3, Value.cells, Act.eval, k7, k8, k9, kA, Option.getD_some] at hm)) | (refine wlA (hz := by first | exact zeroOne) (hm := hm) (h := ?_); clear hm; intro b1 w1 hm; (try simp only [rowOf_set, k1, k2, k3, Value.cells, Act.eval, k7, k8, k9, kA, Option.getD_some] at hm)) | (refine wl_box (by rfl) rfl (by first | exact idV_cells _ | exact labV_cells _ _ | exact rectV_cells _ _ _ _ | rfl) hm ?_; clear hm; intro b1 w1 hm) | (go_at_call 19; refine (timed_c _).mono ?_; rintro e w1 ⟨rfl, hx⟩; replace hm := hm.call hx; clear hx) | (with_reducible first | refine stBs ?_ | refine stMs ?_ | refine stAp ?_ | refine stCo ?_)); (try simp only [k4, k5, k6, Act.put, k1, k2, k3]))
      go_ret
      exact ⟨tb, rfl, B', hT, hm⟩

/-- Ints appended to ints, both in blocks of ours. -/
theorem ow_append_sl {Q : Exit → Act → World → Prop} {a : Act} {w0 w : World} {own : List Nat} {dst : Option Tmp} {ty : TypeId} {pos : String} {aft : Array Edge} {gd : Option (Nat × Bool)} {K : Act → World → Prop} {x y : Operand} {sx sy : Value} {o p : List Int} {S T R : List (Nat × Obj)}
    (hx : IntSl sx o S) (hy : IntSl sy p T) (hm : Mem w0 own (S ++ (T ++ R)) w) (ex : a.eval x = sx) (ey : a.eval y = sy) (hb : o.length + p.length < 1000000)
    (h : ∀ sv S' w', IntSl sv (o ++ p) S' → Mem w0 own (S' ++ (T ++ R)) w' → K (a.put dst sv) w') : Oper.wp Try.prog ⟨dst, .call ⟨.builtin .append, #[x, y], #[34, 34]⟩, ty, pos, aft, gd⟩ a w K Q := by
  rcases hy with ⟨rfl, rfl, rfl⟩ | ⟨g2, cap2, cur2, t0, t1, t2, t3, t4, rfl, rfl⟩
  · have key : ∀ (c : Option Addr) (n k : Nat), n ≤ k → a.eval x = .slice c n k → sx = .slice c n k → Oper.wp Try.prog ⟨dst, .call ⟨.builtin .append, #[x, y], #[34, 34]⟩, ty, pos, aft, gd⟩ a w K Q := fun c n k hnk e1 e2 => by
      obtain ⟨ht, it, hi, h1, h2, h3⟩ := elInt
      have hr := run_append_nothing (P := Try.prog) w 34 34 ty 3 it ht hi c n k hnk (.slice none 0 0) (Src.ofNil w ht 0)
      unfold Oper.wp execOp
      simp only [resolve, invoke, builtin, Sem.run_bind, Sem.run_pure, Result.andThen_ok, List.map_toArray, List.map_cons, List.map_nil, e1, ey, hr]
      refine h _ S _ (by rw [List.append_nil, ← e2]; exact hx) hm
    rcases hx with ⟨rfl, rfl, rfl⟩ | ⟨g, cap, cur, s0, s1, s2, s3, s4, rfl, rfl⟩
    · exact key none 0 0 (Nat.le_refl _) ex rfl
    · exact key _ _ _ s1 ex rfl
  · have hnews : ∀ {M N : List (Nat × Obj)}, Mem w0 own (M ++ ((g2, .cells cur2 3 (0, 0)) :: N)) w → ∀ (j : Nat) (u : Value), (p.map (Value.int .i64))[j]? = some u → w.cell? ((⟨g2, 0, none⟩ : Addr).add j) = some u := fun hmm j u hj => by
      rw [List.getElem?_map] at hj
      cases hp : p[j]? with
      | none => rw [hp] at hj; cases hj
      | some v =>
        rw [hp] at hj
        obtain rfl : Value.int .i64 v = u := Option.some.inj hj
        rw [Addr.add_mid, hmm.right.cell (i := 0) rfl, Nat.zero_add, t4 j v hp]
    have one : ∀ u ∈ p.map (Value.int .i64), u.oneCell' = true := fun u hu => by
      obtain ⟨v, _, rfl⟩ := List.mem_map.1 hu
      rfl
    rcases hx with ⟨rfl, rfl, rfl⟩ | ⟨g, cap, cur, s0, s1, s2, s3, s4, rfl, rfl⟩
    · refine ow_append_nil (m := p.length) (c := cap2) (news := p.map (Value.int .i64)) (ad := ⟨g2, 0, none⟩) (sz := 1) hm elInt rfl ex ey t0 (by simp) (hnews (M := []) hm) (by omega) (by omega) ?_
      intro g' cap' cur' w' hm' p1 p2 p3 p4
      refine h _ [_] _ (.inr ⟨g', cap', cur', by simpa using t0, by simpa using p1, p2, by omega, fun j v hj => ?_, by simp, rfl⟩) hm'
      have hjl := (List.getElem?_eq_some_iff.1 hj).1
      simp only [List.nil_append] at hj hjl
      rw [p4 j (by omega), List.getElem?_map, hj]
      rfl
    · refine ow_append (i := 0) (n := o.length) (m := p.length) (c := cap2) (news := p.map (Value.int .i64)) (ad := ⟨g2, 0, none⟩) (sz := 1) (cur := cur) (g := g) hm elInt rfl rfl ex ey s1 (by omega) (by simp) (hnews (M := [_]) hm) one (by omega) (by omega) ?_
      intro g' cap' cur' w' hm' p1 p2 p3 p4 p5 p6
      rw [← List.length_append] at *
      refine h _ [_] _ (.inr ⟨g', cap', cur', by simp; omega, p1, p2 s2, by omega, fun j v hj => ?_, rfl, rfl⟩) hm'
      rcases Nat.lt_or_ge j o.length with h1 | h1
      · rw [List.getElem?_append_left h1] at hj
        rw [p4 j (by omega)]
        exact s4 j v hj
      · rw [List.getElem?_append_right h1] at hj
        have hjl := (List.getElem?_eq_some_iff.1 hj).1
        have := p5 (j - o.length) (by omega)
        rw [show o.length * 1 + (j - o.length) = j by omega, List.getElem?_map, hj] at this
        exact this
theorem Ticks.join {half to : Int} {l : Tl} {a : List Int} {l1 : Tl} (h : Ticks half l a l1) (hh : half ≤ to) {b : List Int} {l2 : Tl} (k : Ticks to l1 b l2) : Ticks to l (a ++ b) l2 := by
  induction h with
  | stop l h => exact k
  | step l x o l' h hx _ ih => exact .step l x _ l2 h (by omega) (ih k)

theorem steps_out (c : Option Addr) (n cap : Nat) (half to : Int) (h : 100 < n ∨ half < 0 ∨ to < half) : Says 4 #[.slice c n cap, .int .i64 half, .int .i64 to] (.bool true) := by
  intro w
  by_cases h1 : 100 < n
  · have g1 : decide ((100 : Int) < (n : Int)) = true := by rw [decide_eq_true_eq]; omega
    go_enter Try.func4, Try.ntmps4
    have hm := Mem.refl w []
    go_wp2_with ((first | refine wpList_skip (by rfl) ?_ | (refine wlL (hm := hm) (hu := by first | exact undOne) (hi := by (try simp only [rowOf_size]); first | exact sizeOne) (h := ?_); (try simp only [Act.put, k1, k2, k3]); (try simp only [List.nil_append])) | refine wlLC (hm := hm) (hu := by first | exact undInt | exact undSl | exact undMp) (h := ?_) | (refine wlS (hm := hm) (hv := (by first | rfl | exact idV_eq _ | exact labV_eq _ _ | exact rectV_eq _ _ _ _)) (hi := by (try simp only [rowOf_size]); first | exact sizeOne) (hs := by first | (simp only [rowOf_size]; done) | rfl) (h := ?_); clear hm; intro w1 hm; (try simp only [rowOf_set, k1, k2, k3, Value.cells, Act.eval, k7, k8, k9, kA, Option.getD_some] at hm)) | (refine wlSC (hm := hm) (hi := by first | exact sizeInt | exact sizeSl | exact sizeMp) (ho := by first | decide | (simp only [rowOf_size]; omega) | (simp; done)) (h := ?_); clear hm; intro w1 hm; (try simp only [rowOf_set, k1, k2, k3, Value.cells, Act.eval, k7, k8, k9, kA, Option.getD_some] at hm)) | (refine wlA (hz := by first | exact zeroOne) (hm := hm) (h := ?_); clear hm; intro b1 w1 hm; (try simp only [rowOf_set, k1, k2, k3, Value.cells, Act.eval, k7, k8, k9, kA, Option.getD_some] at hm)) | (refine wl_box (by rfl) rfl (by first | exact idV_cells _ | exact labV_cells _ _ | exact rectV_cells _ _ _ _ | rfl) hm ?_; clear hm; intro b1 w1 hm) | (go_at_call 19; refine (timed_c _).mono ?_; rintro e w1 ⟨rfl, hx⟩; replace hm := hm.call hx; clear hx) | (with_reducible first | refine stBs ?_ | refine stMs ?_ | refine stAp ?_ | refine stCo ?_)); (try simp only [k4, k5, k6, Act.put, k1, k2, k3]))
    go_ret
    exact ⟨rfl, hm.ext⟩
  · have g1 : decide ((100 : Int) < (n : Int)) = false := by rw [decide_eq_false_iff_not]; omega
    by_cases h2 : half < 0
    · have g2 : decide (half < 0) = true := decide_eq_true h2
      go_enter Try.func4, Try.ntmps4
      have hm := Mem.refl w []
      go_wp2_with ((first | refine wpList_skip (by rfl) ?_ | (refine wlL (hm := hm) (hu := by first | exact undOne) (hi := by (try simp only [rowOf_size]); first | exact sizeOne) (h := ?_); (try simp only [Act.put, k1, k2, k3]); (try simp only [List.nil_append])) | refine wlLC (hm := hm) (hu := by first | exact undInt | exact undSl | exact undMp) (h := ?_) | (refine wlS (hm := hm) (hv := (by first | rfl | exact idV_eq _ | exact labV_eq _ _ | exact rectV_eq _ _ _ _)) (hi := by (try simp only [rowOf_size]); first | exact sizeOne) (hs := by first | (simp only [rowOf_size]; done) | rfl) (h := ?_); clear hm; intro w1 hm; (try simp only [rowOf_set, k1, k2, k3, Value.cells, Act.eval, k7, k8, k9, kA, Option.getD_some] at hm)) | (refine wlSC (hm := hm) (hi := by first | exact sizeInt | exact sizeSl | exact sizeMp) (ho := by first | decide | (simp only [rowOf_size]; omega) | (simp; done)) (h := ?_); clear hm; intro w1 hm; (try simp only [rowOf_set, k1, k2, k3, Value.cells, Act.eval, k7, k8, k9, kA, Option.getD_some] at hm)) | (refine wlA (hz := by first | exact zeroOne) (hm := hm) (h := ?_); clear hm; intro b1 w1 hm; (try simp only [rowOf_set, k1, k2, k3, Value.cells, Act.eval, k7, k8, k9, kA, Option.getD_some] at hm)) | (refine wl_box (by rfl) rfl (by first | exact idV_cells _ | exact labV_cells _ _ | exact rectV_cells _ _ _ _ | rfl) hm ?_; clear hm; intro b1 w1 hm) | (go_at_call 19; refine (timed_c _).mono ?_; rintro e w1 ⟨rfl, hx⟩; replace hm := hm.call hx; clear hx) | (with_reducible first | refine stBs ?_ | refine stMs ?_ | refine stAp ?_ | refine stCo ?_)); (try simp only [k4, k5, k6, Act.put, k1, k2, k3]))
      go_ret
      exact ⟨rfl, hm.ext⟩
    · have g2 : decide (half < 0) = false := decide_eq_false h2
      have g3 : decide (to < half) = true := decide_eq_true (by omega)
      go_enter Try.func4, Try.ntmps4
      have hm := Mem.refl w []
      go_wp2_with ((first | refine wpList_skip (by rfl) ?_ | (refine wlL (hm := hm) (hu := by first | exact undOne) (hi := by (try simp only [rowOf_size]); first | exact sizeOne) (h := ?_); (try simp only [Act.put, k1, k2, k3]); (try simp only [List.nil_append])) | refine wlLC (hm := hm) (hu := by first | exact undInt | exact undSl | exact undMp) (h := ?_) | (refine wlS (hm := hm) (hv := (by first | rfl | exact idV_eq _ | exact labV_eq _ _ | exact rectV_eq _ _ _ _)) (hi := by (try simp only [rowOf_size]); first | exact sizeOne) (hs := by first | (simp only [rowOf_size]; done) | rfl) (h := ?_); clear hm; intro w1 hm; (try simp only [rowOf_set, k1, k2, k3, Value.cells, Act.eval, k7, k8, k9, kA, Option.getD_some] at hm)) | (refine wlSC (hm := hm) (hi := by first | exact sizeInt | exact sizeSl | exact sizeMp) (ho := by first | decide | (simp only [rowOf_size]; omega) | (simp; done)) (h := ?_); clear hm; intro w1 hm; (try simp only [rowOf_set, k1, k2, k3, Value.cells, Act.eval, k7, k8, k9, kA, Option.getD_some] at hm)) | (refine wlA (hz := by first | exact zeroOne) (hm := hm) (h := ?_); clear hm; intro b1 w1 hm; (try simp only [rowOf_set, k1, k2, k3, Value.cells, Act.eval, k7, k8, k9, kA, Option.getD_some] at hm)) | (refine wl_box (by rfl) rfl (by first | exact idV_cells _ | exact labV_cells _ _ | exact rectV_cells _ _ _ _ | rfl) hm ?_; clear hm; intro b1 w1 hm) | (go_at_call 19; refine (timed_c _).mono ?_; rintro e w1 ⟨rfl, hx⟩; replace hm := hm.call hx; clear hx) | (with_reducible first | refine stBs ?_ | refine stMs ?_ | refine stAp ?_ | refine stCo ?_)); (try simp only [k4, k5, k6, Act.put, k1, k2, k3]))
      go_ret
      exact ⟨rfl, hm.ext⟩
theorem steps_in (c : Option Addr) (n cap : Nat) (z : Nat → Int) (half to : Int) (hn : n ≤ 100) (h2 : ¬ half < 0) (h3 : ¬ to < half) (w : World) (h : IntsV w c n z) :
    Calls Try.prog 4 #[.slice c n cap, .int .i64 half, .int .i64 to] w fun e w' => e = .returned (.bool true) ∧ Ext w w' := by
  obtain ⟨a, l1, k1'⟩ := ticks_ex half _ (setsL z n) (Nat.le_refl _)
  obtain ⟨b, l2, k2'⟩ := ticks_ex to _ l1 (Nat.le_refl _)
  have k3' := k1'.join (by omega) k2'
  have hlen := k3'.length
  have hle := setsL_length z n
  have g1 : decide ((100 : Int) < (n : Int)) = false := by rw [decide_eq_false_iff_not]; omega
  have g2 : decide (half < 0) = false := decide_eq_false h2
  have g3 : decide (to < half) = false := decide_eq_false h3
  have g4 : ((l2.length : Int) == (l2.length : Int)) = true := by simp
  have g5 : (to == to) = true := by simp
  go_enter Try.func4, Try.ntmps4
  go_wp2_with ((first | refine wpList_skip (by rfl) ?_ | (refine wlL (hm := hm) (hu := by first | exact undOne) (hi := by (try simp only [rowOf_size]); first | exact sizeOne) (h := ?_); (try simp only [Act.put, k1, k2, k3]); (try simp only [List.nil_append])) | refine wlLC (hm := hm) (hu := by first | exact undInt | exact undSl | exact undMp) (h := ?_) | (refine wlS (hm := hm) (hv := (by first | rfl | exact idV_eq _ | exact labV_eq _ _ | exact rectV_eq _ _ _ _)) (hi := by (try simp only [rowOf_size]); first | exact sizeOne) (hs := by first | (simp only [rowOf_size]; done) | rfl) (h := ?_); clear hm; intro w1 hm; (try simp only [rowOf_set, k1, k2, k3, Value.cells, Act.eval, k7, k8, k9, kA, Option.getD_some] at hm)) | (refine wlSC (hm := hm) (hi := by first | exact sizeInt | exact sizeSl | exact sizeMp) (ho := by first | decide | (simp only [rowOf_size]; omega) | (simp; done)) (h := ?_); clear hm; intro w1 hm; (try simp only [rowOf_set, k1, k2, k3, Value.cells, Act.eval, k7, k8, k9, kA, Option.getD_some] at hm)) | (refine wlA (hz := by first | exact zeroOne) (hm := hm) (h := ?_); clear hm; intro b1 w1 hm; (try simp only [rowOf_set, k1, k2, k3, Value.cells, Act.eval, k7, k8, k9, kA, Option.getD_some] at hm)) | (refine wl_box (by rfl) rfl (by first | exact idV_cells _ | exact labV_cells _ _ | exact rectV_cells _ _ _ _ | rfl) hm ?_; clear hm; intro b1 w1 hm) | (go_at_call 19; refine (timed_c _).mono ?_; rintro e w1 ⟨rfl, hx⟩; replace hm := hm.call hx; clear hx) | (with_reducible first | refine stBs ?_ | refine stMs ?_ | refine stAp ?_ | refine stCo ?_)); (try simp only [k4, k5, k6, Act.put, k1, k2, k3]))
  refine (set_ok c n cap z hn _ h).mono ?_
  rintro e w1 hx
  obtain ⟨tb, B1, rfl, hT1, hm⟩ := hx.out
  clear hx
  go_wp2_with ((first | refine wpList_skip (by rfl) ?_ | (refine wlL (hm := hm) (hu := by first | exact undOne) (hi := by (try simp only [rowOf_size]); first | exact sizeOne) (h := ?_); (try simp only [Act.put, k1, k2, k3]); (try simp only [List.nil_append])) | refine wlLC (hm := hm) (hu := by first | exact undInt | exact undSl | exact undMp) (h := ?_) | (refine wlS (hm := hm) (hv := (by first | rfl | exact idV_eq _ | exact labV_eq _ _ | exact rectV_eq _ _ _ _)) (hi := by (try simp only [rowOf_size]); first | exact sizeOne) (hs := by first | (simp only [rowOf_size]; done) | rfl) (h := ?_); clear hm; intro w1 hm; (try simp only [rowOf_set, k1, k2, k3, Value.cells, Act.eval, k7, k8, k9, kA, Option.getD_some] at hm)) | (refine wlSC (hm := hm) (hi := by first | exact sizeInt | exact sizeSl | exact sizeMp) (ho := by first | decide | (simp only [rowOf_size]; omega) | (simp; done)) (h := ?_); clear hm; intro w1 hm; (try simp only [rowOf_set, k1, k2, k3, Value.cells, Act.eval, k7, k8, k9, kA, Option.getD_some] at hm)) | (refine wlA (hz := by first | exact zeroOne) (hm := hm) (h := ?_); clear hm; intro b1 w1 hm; (try simp only [rowOf_set, k1, k2, k3, Value.cells, Act.eval, k7, k8, k9, kA, Option.getD_some] at hm)) | (refine wl_box (by rfl) rfl (by first | exact idV_cells _ | exact labV_cells _ _ | exact rectV_cells _ _ _ _ | rfl) hm ?_; clear hm; intro b1 w1 hm) | (go_at_call 19; refine (timed_c _).mono ?_; rintro e w1 ⟨rfl, hx⟩; replace hm := hm.call hx; clear hx) | (with_reducible first | refine stBs ?_ | refine stMs ?_ | refine stAp ?_ | refine stCo ?_)); (try simp only [k4, k5, k6, Act.put, k1, k2, k3]))
  refine (set_ok c n cap z hn _ (h.old hm)).mono ?_
  rintro e w2 hx
  obtain ⟨ub, B2, rfl, hT2, hx2⟩ := hx.out
  clear hx
  replace hm : Mem w [] (B2 ++ B1) w2 := Mem.callOwn (B := []) hm hx2
  clear hx2
  go_wp2_with ((first | refine wpList_skip (by rfl) ?_ | (refine wlL (hm := hm) (hu := by first | exact undOne) (hi := by (try simp only [rowOf_size]); first | exact sizeOne) (h := ?_); (try simp only [Act.put, k1, k2, k3]); (try simp only [List.nil_append])) | refine wlLC (hm := hm) (hu := by first | exact undInt | exact undSl | exact undMp) (h := ?_) | (refine wlS (hm := hm) (hv := (by first | rfl | exact idV_eq _ | exact labV_eq _ _ | exact rectV_eq _ _ _ _)) (hi := by (try simp only [rowOf_size]); first | exact sizeOne) (hs := by first | (simp only [rowOf_size]; done) | rfl) (h := ?_); clear hm; intro w1 hm; (try simp only [rowOf_set, k1, k2, k3, Value.cells, Act.eval, k7, k8, k9, kA, Option.getD_some] at hm)) | (refine wlSC (hm := hm) (hi := by first | exact sizeInt | exact sizeSl | exact sizeMp) (ho := by first | decide | (simp only [rowOf_size]; omega) | (simp; done)) (h := ?_); clear hm; intro w1 hm; (try simp only [rowOf_set, k1, k2, k3, Value.cells, Act.eval, k7, k8, k9, kA, Option.getD_some] at hm)) | (refine wlA (hz := by first | exact zeroOne) (hm := hm) (h := ?_); clear hm; intro b1 w1 hm; (try simp only [rowOf_set, k1, k2, k3, Value.cells, Act.eval, k7, k8, k9, kA, Option.getD_some] at hm)) | (refine wl_box (by rfl) rfl (by first | exact idV_cells _ | exact labV_cells _ _ | exact rectV_cells _ _ _ _ | rfl) hm ?_; clear hm; intro b1 w1 hm) | (go_at_call 19; refine (timed_c _).mono ?_; rintro e w1 ⟨rfl, hx⟩; replace hm := hm.call hx; clear hx) | (with_reducible first | refine stBs ?_ | refine stMs ?_ | refine stAp ?_ | refine stCo ?_)); (try simp only [k4, k5, k6, Act.put, k1, k2, k3]))
  refine (tick_c tb 0 half _ a l1 (by omega) k1' _ _ hT1 hm.right.self).mono ?_
  rintro e w3 hx
  obtain ⟨sa, Sa, B3, rfl, hSa, hT3, hx⟩ := hx.out
  replace hm := hm.callBehind hx
  clear hx hT1
  go_wp2_with ((first | refine wpList_skip (by rfl) ?_ | (refine wlL (hm := hm) (hu := by first | exact undOne) (hi := by (try simp only [rowOf_size]); first | exact sizeOne) (h := ?_); (try simp only [Act.put, k1, k2, k3]); (try simp only [List.nil_append])) | refine wlLC (hm := hm) (hu := by first | exact undInt | exact undSl | exact undMp) (h := ?_) | (refine wlS (hm := hm) (hv := (by first | rfl | exact idV_eq _ | exact labV_eq _ _ | exact rectV_eq _ _ _ _)) (hi := by (try simp only [rowOf_size]); first | exact sizeOne) (hs := by first | (simp only [rowOf_size]; done) | rfl) (h := ?_); clear hm; intro w1 hm; (try simp only [rowOf_set, k1, k2, k3, Value.cells, Act.eval, k7, k8, k9, kA, Option.getD_some] at hm)) | (refine wlSC (hm := hm) (hi := by first | exact sizeInt | exact sizeSl | exact sizeMp) (ho := by first | decide | (simp only [rowOf_size]; omega) | (simp; done)) (h := ?_); clear hm; intro w1 hm; (try simp only [rowOf_set, k1, k2, k3, Value.cells, Act.eval, k7, k8, k9, kA, Option.getD_some] at hm)) | (refine wlA (hz := by first | exact zeroOne) (hm := hm) (h := ?_); clear hm; intro b1 w1 hm; (try simp only [rowOf_set, k1, k2, k3, Value.cells, Act.eval, k7, k8, k9, kA, Option.getD_some] at hm)) | (refine wl_box (by rfl) rfl (by first | exact idV_cells _ | exact labV_cells _ _ | exact rectV_cells _ _ _ _ | rfl) hm ?_; clear hm; intro b1 w1 hm) | (go_at_call 19; refine (timed_c _).mono ?_; rintro e w1 ⟨rfl, hx⟩; replace hm := hm.call hx; clear hx) | (with_reducible first | refine stBs ?_ | refine stMs ?_ | refine stAp ?_ | refine stCo ?_)); (try simp only [k4, k5, k6, Act.put, k1, k2, k3]))
  rw [← List.append_assoc] at hm
  refine (tick_c tb half to _ b l2 (by omega) k2' _ _ hT3 hm.right.self).mono ?_
  rintro e w4 hx
  obtain ⟨sb, Sb, B4, rfl, hSb, hT4, hx⟩ := hx.out
  replace hm := hm.callBehind hx
  clear hx hT3
  replace hm := hm.perm (M := (Sb ++ (Sa ++ B4)) ++ B2) (perm_of fun x => by simp only [cnt_append]; omega)
  go_wp2_with ((first | refine wpList_skip (by rfl) ?_ | (refine wlL (hm := hm) (hu := by first | exact undOne) (hi := by (try simp only [rowOf_size]); first | exact sizeOne) (h := ?_); (try simp only [Act.put, k1, k2, k3]); (try simp only [List.nil_append])) | refine wlLC (hm := hm) (hu := by first | exact undInt | exact undSl | exact undMp) (h := ?_) | (refine wlS (hm := hm) (hv := (by first | rfl | exact idV_eq _ | exact labV_eq _ _ | exact rectV_eq _ _ _ _)) (hi := by (try simp only [rowOf_size]); first | exact sizeOne) (hs := by first | (simp only [rowOf_size]; done) | rfl) (h := ?_); clear hm; intro w1 hm; (try simp only [rowOf_set, k1, k2, k3, Value.cells, Act.eval, k7, k8, k9, kA, Option.getD_some] at hm)) | (refine wlSC (hm := hm) (hi := by first | exact sizeInt | exact sizeSl | exact sizeMp) (ho := by first | decide | (simp only [rowOf_size]; omega) | (simp; done)) (h := ?_); clear hm; intro w1 hm; (try simp only [rowOf_set, k1, k2, k3, Value.cells, Act.eval, k7, k8, k9, kA, Option.getD_some] at hm)) | (refine wlA (hz := by first | exact zeroOne) (hm := hm) (h := ?_); clear hm; intro b1 w1 hm; (try simp only [rowOf_set, k1, k2, k3, Value.cells, Act.eval, k7, k8, k9, kA, Option.getD_some] at hm)) | (refine wl_box (by rfl) rfl (by first | exact idV_cells _ | exact labV_cells _ _ | exact rectV_cells _ _ _ _ | rfl) hm ?_; clear hm; intro b1 w1 hm) | (go_at_call 19; refine (timed_c _).mono ?_; rintro e w1 ⟨rfl, hx⟩; replace hm := hm.call hx; clear hx) | (with_reducible first | refine stBs ?_ | refine stMs ?_ | refine stAp ?_ | refine stCo ?_)); (try simp only [k4, k5, k6, Act.put, k1, k2, k3]))
  refine (tick_c ub 0 to _ (a ++ b) l2 (by omega) k3' _ _ hT2 hm.right.self).mono ?_
  rintro e w5 hx
  obtain ⟨sc, Sc, B5, rfl, hSc, hT5, hx⟩ := hx.out
  replace hm := hm.callBehind hx
  clear hx hT2
  go_wp2_with ((first | refine wpList_skip (by rfl) ?_ | (refine wlL (hm := hm) (hu := by first | exact undOne) (hi := by (try simp only [rowOf_size]); first | exact sizeOne) (h := ?_); (try simp only [Act.put, k1, k2, k3]); (try simp only [List.nil_append])) | refine wlLC (hm := hm) (hu := by first | exact undInt | exact undSl | exact undMp) (h := ?_) | (refine wlS (hm := hm) (hv := (by first | rfl | exact idV_eq _ | exact labV_eq _ _ | exact rectV_eq _ _ _ _)) (hi := by (try simp only [rowOf_size]); first | exact sizeOne) (hs := by first | (simp only [rowOf_size]; done) | rfl) (h := ?_); clear hm; intro w1 hm; (try simp only [rowOf_set, k1, k2, k3, Value.cells, Act.eval, k7, k8, k9, kA, Option.getD_some] at hm)) | (refine wlSC (hm := hm) (hi := by first | exact sizeInt | exact sizeSl | exact sizeMp) (ho := by first | decide | (simp only [rowOf_size]; omega) | (simp; done)) (h := ?_); clear hm; intro w1 hm; (try simp only [rowOf_set, k1, k2, k3, Value.cells, Act.eval, k7, k8, k9, kA, Option.getD_some] at hm)) | (refine wlA (hz := by first | exact zeroOne) (hm := hm) (h := ?_); clear hm; intro b1 w1 hm; (try simp only [rowOf_set, k1, k2, k3, Value.cells, Act.eval, k7, k8, k9, kA, Option.getD_some] at hm)) | (refine wl_box (by rfl) rfl (by first | exact idV_cells _ | exact labV_cells _ _ | exact rectV_cells _ _ _ _ | rfl) hm ?_; clear hm; intro b1 w1 hm) | (go_at_call 19; refine (timed_c _).mono ?_; rintro e w1 ⟨rfl, hx⟩; replace hm := hm.call hx; clear hx) | (with_reducible first | refine stBs ?_ | refine stMs ?_ | refine stAp ?_ | refine stCo ?_)); (try simp only [k4, k5, k6, Act.put, k1, k2, k3]))
  replace hm := hm.perm (M := Sa ++ (Sb ++ (Sc ++ (B4 ++ B5)))) (perm_of fun x => by simp only [cnt_append]; omega)
  have hab : a.length + b.length ≤ 100 := by rw [List.length_append] at hlen; omega
  refine Stop.go (wl_op (by rfl) fun K hK => ow_append_sl (S := []) IntSl.nil hSa hm rfl rfl (by simp; omega) ?_)
  clear hm
  intro sd Sd w6 hSd hm
  refine hK _ _ ?_; clear hK K; simp only [Act.put, k1, k2, k3]
  go_wp2_with ((first | refine wpList_skip (by rfl) ?_ | (refine wlL (hm := hm) (hu := by first | exact undOne) (hi := by (try simp only [rowOf_size]); first | exact sizeOne) (h := ?_); (try simp only [Act.put, k1, k2, k3]); (try simp only [List.nil_append])) | refine wlLC (hm := hm) (hu := by first | exact undInt | exact undSl | exact undMp) (h := ?_) | (refine wlS (hm := hm) (hv := (by first | rfl | exact idV_eq _ | exact labV_eq _ _ | exact rectV_eq _ _ _ _)) (hi := by (try simp only [rowOf_size]); first | exact sizeOne) (hs := by first | (simp only [rowOf_size]; done) | rfl) (h := ?_); clear hm; intro w1 hm; (try simp only [rowOf_set, k1, k2, k3, Value.cells, Act.eval, k7, k8, k9, kA, Option.getD_some] at hm)) | (refine wlSC (hm := hm) (hi := by first | exact sizeInt | exact sizeSl | exact sizeMp) (ho := by first | decide | (simp only [rowOf_size]; omega) | (simp; done)) (h := ?_); clear hm; intro w1 hm; (try simp only [rowOf_set, k1, k2, k3, Value.cells, Act.eval, k7, k8, k9, kA, Option.getD_some] at hm)) | (refine wlA (hz := by first | exact zeroOne) (hm := hm) (h := ?_); clear hm; intro b1 w1 hm; (try simp only [rowOf_set, k1, k2, k3, Value.cells, Act.eval, k7, k8, k9, kA, Option.getD_some] at hm)) | (refine wl_box (by rfl) rfl (by first | exact idV_cells _ | exact labV_cells _ _ | exact rectV_cells _ _ _ _ | rfl) hm ?_; clear hm; intro b1 w1 hm) | (go_at_call 19; refine (timed_c _).mono ?_; rintro e w1 ⟨rfl, hx⟩; replace hm := hm.call hx; clear hx) | (with_reducible first | refine stBs ?_ | refine stMs ?_ | refine stAp ?_ | refine stCo ?_)); (try simp only [k4, k5, k6, Act.put, k1, k2, k3]))
  replace hm := hm.perm (M := Sd ++ (Sb ++ (Sa ++ (Sc ++ (B4 ++ B5))))) (perm_of fun x => by simp only [cnt_append]; omega)
  refine Stop.go (wl_op (by rfl) fun K hK => ow_append_sl hSd hSb hm rfl rfl (by simp; omega) ?_)
  clear hm hSd
  intro se Se w7 hSe hm
  refine hK _ _ ?_; clear hK K; simp only [Act.put, k1, k2, k3]
  simp only [List.nil_append] at hSe
  go_wp2_with ((first | refine wpList_skip (by rfl) ?_ | (refine wlL (hm := hm) (hu := by first | exact undOne) (hi := by (try simp only [rowOf_size]); first | exact sizeOne) (h := ?_); (try simp only [Act.put, k1, k2, k3]); (try simp only [List.nil_append])) | refine wlLC (hm := hm) (hu := by first | exact undInt | exact undSl | exact undMp) (h := ?_) | (refine wlS (hm := hm) (hv := (by first | rfl | exact idV_eq _ | exact labV_eq _ _ | exact rectV_eq _ _ _ _)) (hi := by (try simp only [rowOf_size]); first | exact sizeOne) (hs := by first | (simp only [rowOf_size]; done) | rfl) (h := ?_); clear hm; intro w1 hm; (try simp only [rowOf_set, k1, k2, k3, Value.cells, Act.eval, k7, k8, k9, kA, Option.getD_some] at hm)) | (refine wlSC (hm := hm) (hi := by first | exact sizeInt | exact sizeSl | exact sizeMp) (ho := by first | decide | (simp only [rowOf_size]; omega) | (simp; done)) (h := ?_); clear hm; intro w1 hm; (try simp only [rowOf_set, k1, k2, k3, Value.cells, Act.eval, k7, k8, k9, kA, Option.getD_some] at hm)) | (refine wlA (hz := by first | exact zeroOne) (hm := hm) (h := ?_); clear hm; intro b1 w1 hm; (try simp only [rowOf_set, k1, k2, k3, Value.cells, Act.eval, k7, k8, k9, kA, Option.getD_some] at hm)) | (refine wl_box (by rfl) rfl (by first | exact idV_cells _ | exact labV_cells _ _ | exact rectV_cells _ _ _ _ | rfl) hm ?_; clear hm; intro b1 w1 hm) | (go_at_call 19; refine (timed_c _).mono ?_; rintro e w1 ⟨rfl, hx⟩; replace hm := hm.call hx; clear hx) | (with_reducible first | refine stBs ?_ | refine stMs ?_ | refine stAp ?_ | refine stCo ?_)); (try simp only [k4, k5, k6, Act.put, k1, k2, k3]))
  obtain ⟨c1, cap1, rfl, hv1⟩ := hSe.view
  obtain ⟨c2, cap2, rfl, hv2⟩ := hSc.view
  have hv1' := hv1 hm
  have hv2' := hv2 (hm.perm (M := Sc ++ (Sb ++ (Sa ++ (B4 ++ (B5 ++ Se))))) (perm_of fun x => by simp only [cnt_append]; omega))
  refine (ints_c c1 (a ++ b).length cap1 _ c2 (a ++ b).length cap2 _ (by rw [List.length_append]; omega) _ hv1' hv2').mono ?_
  rintro e w8 ⟨rfl, hx⟩
  replace hm := hm.call hx
  clear hx hv1 hv2 hv1' hv2' hSe hSc
  rw [sameInts_all (fun i _ => rfl)]
  go_wp2_with ((first | refine wpList_skip (by rfl) ?_ | (refine wlL (hm := hm) (hu := by first | exact undOne) (hi := by (try simp only [rowOf_size]); first | exact sizeOne) (h := ?_); (try simp only [Act.put, k1, k2, k3]); (try simp only [List.nil_append])) | refine wlLC (hm := hm) (hu := by first | exact undInt | exact undSl | exact undMp) (h := ?_) | (refine wlS (hm := hm) (hv := (by first | rfl | exact idV_eq _ | exact labV_eq _ _ | exact rectV_eq _ _ _ _)) (hi := by (try simp only [rowOf_size]); first | exact sizeOne) (hs := by first | (simp only [rowOf_size]; done) | rfl) (h := ?_); clear hm; intro w1 hm; (try simp only [rowOf_set, k1, k2, k3, Value.cells, Act.eval, k7, k8, k9, kA, Option.getD_some] at hm)) | (refine wlSC (hm := hm) (hi := by first | exact sizeInt | exact sizeSl | exact sizeMp) (ho := by first | decide | (simp only [rowOf_size]; omega) | (simp; done)) (h := ?_); clear hm; intro w1 hm; (try simp only [rowOf_set, k1, k2, k3, Value.cells, Act.eval, k7, k8, k9, kA, Option.getD_some] at hm)) | (refine wlA (hz := by first | exact zeroOne) (hm := hm) (h := ?_); clear hm; intro b1 w1 hm; (try simp only [rowOf_set, k1, k2, k3, Value.cells, Act.eval, k7, k8, k9, kA, Option.getD_some] at hm)) | (refine wl_box (by rfl) rfl (by first | exact idV_cells _ | exact labV_cells _ _ | exact rectV_cells _ _ _ _ | rfl) hm ?_; clear hm; intro b1 w1 hm) | (go_at_call 19; refine (timed_c _).mono ?_; rintro e w1 ⟨rfl, hx⟩; replace hm := hm.call hx; clear hx) | (with_reducible first | refine stBs ?_ | refine stMs ?_ | refine stAp ?_ | refine stCo ?_)); (try simp only [k4, k5, k6, Act.put, k1, k2, k3]))
  replace hm := hm.perm (M := (Sc ++ (Sb ++ (Sa ++ (B5 ++ Se)))) ++ B4) (perm_of fun x => by simp only [cnt_append]; omega)
  refine ((tm_size tb to l2).use hT4 hm).mono ?_
  clear hm; rintro e w9 ⟨rfl, B6, hT6, hm⟩
  go_wp2_with ((first | refine wpList_skip (by rfl) ?_ | (refine wlL (hm := hm) (hu := by first | exact undOne) (hi := by (try simp only [rowOf_size]); first | exact sizeOne) (h := ?_); (try simp only [Act.put, k1, k2, k3]); (try simp only [List.nil_append])) | refine wlLC (hm := hm) (hu := by first | exact undInt | exact undSl | exact undMp) (h := ?_) | (refine wlS (hm := hm) (hv := (by first | rfl | exact idV_eq _ | exact labV_eq _ _ | exact rectV_eq _ _ _ _)) (hi := by (try simp only [rowOf_size]); first | exact sizeOne) (hs := by first | (simp only [rowOf_size]; done) | rfl) (h := ?_); clear hm; intro w1 hm; (try simp only [rowOf_set, k1, k2, k3, Value.cells, Act.eval, k7, k8, k9, kA, Option.getD_some] at hm)) | (refine wlSC (hm := hm) (hi := by first | exact sizeInt | exact sizeSl | exact sizeMp) (ho := by first | decide | (simp only [rowOf_size]; omega) | (simp; done)) (h := ?_); clear hm; intro w1 hm; (try simp only [rowOf_set, k1, k2, k3, Value.cells, Act.eval, k7, k8, k9, kA, Option.getD_some] at hm)) | (refine wlA (hz := by first | exact zeroOne) (hm := hm) (h := ?_); clear hm; intro b1 w1 hm; (try simp only [rowOf_set, k1, k2, k3, Value.cells, Act.eval, k7, k8, k9, kA, Option.getD_some] at hm)) | (refine wl_box (by rfl) rfl (by first | exact idV_cells _ | exact labV_cells _ _ | exact rectV_cells _ _ _ _ | rfl) hm ?_; clear hm; intro b1 w1 hm) | (go_at_call 19; refine (timed_c _).mono ?_; rintro e w1 ⟨rfl, hx⟩; replace hm := hm.call hx; clear hx) | (with_reducible first | refine stBs ?_ | refine stMs ?_ | refine stAp ?_ | refine stCo ?_)); (try simp only [k4, k5, k6, Act.put, k1, k2, k3]))
  replace hm := hm.perm (M := (Sc ++ (Sb ++ (Sa ++ (B6 ++ Se)))) ++ B5) (perm_of fun x => by simp only [cnt_append]; omega)
  refine ((tm_size ub to l2).use hT5 hm).mono ?_
  clear hm; rintro e w10 ⟨rfl, B7, hT7, hm⟩
  go_wp2_with ((first | refine wpList_skip (by rfl) ?_ | (refine wlL (hm := hm) (hu := by first | exact undOne) (hi := by (try simp only [rowOf_size]); first | exact sizeOne) (h := ?_); (try simp only [Act.put, k1, k2, k3]); (try simp only [List.nil_append])) | refine wlLC (hm := hm) (hu := by first | exact undInt | exact undSl | exact undMp) (h := ?_) | (refine wlS (hm := hm) (hv := (by first | rfl | exact idV_eq _ | exact labV_eq _ _ | exact rectV_eq _ _ _ _)) (hi := by (try simp only [rowOf_size]); first | exact sizeOne) (hs := by first | (simp only [rowOf_size]; done) | rfl) (h := ?_); clear hm; intro w1 hm; (try simp only [rowOf_set, k1, k2, k3, Value.cells, Act.eval, k7, k8, k9, kA, Option.getD_some] at hm)) | (refine wlSC (hm := hm) (hi := by first | exact sizeInt | exact sizeSl | exact sizeMp) (ho := by first | decide | (simp only [rowOf_size]; omega) | (simp; done)) (h := ?_); clear hm; intro w1 hm; (try simp only [rowOf_set, k1, k2, k3, Value.cells, Act.eval, k7, k8, k9, kA, Option.getD_some] at hm)) | (refine wlA (hz := by first | exact zeroOne) (hm := hm) (h := ?_); clear hm; intro b1 w1 hm; (try simp only [rowOf_set, k1, k2, k3, Value.cells, Act.eval, k7, k8, k9, kA, Option.getD_some] at hm)) | (refine wl_box (by rfl) rfl (by first | exact idV_cells _ | exact labV_cells _ _ | exact rectV_cells _ _ _ _ | rfl) hm ?_; clear hm; intro b1 w1 hm) | (go_at_call 19; refine (timed_c _).mono ?_; rintro e w1 ⟨rfl, hx⟩; replace hm := hm.call hx; clear hx) | (with_reducible first | refine stBs ?_ | refine stMs ?_ | refine stAp ?_ | refine stCo ?_)); (try simp only [k4, k5, k6, Act.put, k1, k2, k3]))
  replace hm := hm.perm (M := (Sc ++ (Sb ++ (Sa ++ (B7 ++ Se)))) ++ B6) (perm_of fun x => by simp only [cnt_append]; omega)
  refine ((tm_now tb to l2).use hT6 hm).mono ?_
  clear hm; rintro e w11 ⟨rfl, B8, hT8, hm⟩
  go_wp2_with ((first | refine wpList_skip (by rfl) ?_ | (refine wlL (hm := hm) (hu := by first | exact undOne) (hi := by (try simp only [rowOf_size]); first | exact sizeOne) (h := ?_); (try simp only [Act.put, k1, k2, k3]); (try simp only [List.nil_append])) | refine wlLC (hm := hm) (hu := by first | exact undInt | exact undSl | exact undMp) (h := ?_) | (refine wlS (hm := hm) (hv := (by first | rfl | exact idV_eq _ | exact labV_eq _ _ | exact rectV_eq _ _ _ _)) (hi := by (try simp only [rowOf_size]); first | exact sizeOne) (hs := by first | (simp only [rowOf_size]; done) | rfl) (h := ?_); clear hm; intro w1 hm; (try simp only [rowOf_set, k1, k2, k3, Value.cells, Act.eval, k7, k8, k9, kA, Option.getD_some] at hm)) | (refine wlSC (hm := hm) (hi := by first | exact sizeInt | exact sizeSl | exact sizeMp) (ho := by first | decide | (simp only [rowOf_size]; omega) | (simp; done)) (h := ?_); clear hm; intro w1 hm; (try simp only [rowOf_set, k1, k2, k3, Value.cells, Act.eval, k7, k8, k9, kA, Option.getD_some] at hm)) | (refine wlA (hz := by first | exact zeroOne) (hm := hm) (h := ?_); clear hm; intro b1 w1 hm; (try simp only [rowOf_set, k1, k2, k3, Value.cells, Act.eval, k7, k8, k9, kA, Option.getD_some] at hm)) | (refine wl_box (by rfl) rfl (by first | exact idV_cells _ | exact labV_cells _ _ | exact rectV_cells _ _ _ _ | rfl) hm ?_; clear hm; intro b1 w1 hm) | (go_at_call 19; refine (timed_c _).mono ?_; rintro e w1 ⟨rfl, hx⟩; replace hm := hm.call hx; clear hx) | (with_reducible first | refine stBs ?_ | refine stMs ?_ | refine stAp ?_ | refine stCo ?_)); (try simp only [k4, k5, k6, Act.put, k1, k2, k3]))
  go_ret
  exact ⟨rfl, hm.ext⟩
end Go.Proofs.Ythcpdjlomdchdaa
