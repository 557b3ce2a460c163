/-
  Timers: they answer a script just as a row does: walked.
-/
import Derived.Test.YthcpdjlomdchdaaTimW
namespace Go.Proofs.Ythcpdjlomdchdaa
open Go.RowKit
set_option linter.unusedSimpArgs false
set_option linter.unusedVariables false
set_option maxHeartbeats 2000000
set_option maxRecDepth 20000

theorem undStp : Try.prog.underlying 30 = some (.struct stepFields) := undStep
theorem sizeStp : (Try.prog.info? 30).map (·.size) = some 3 := sizeStep
theorem zeroStp : (Try.prog.info? 30).bind (·.zero) = some (.agg #[.int .i64 0, .int .i64 0, .int .i64 0]) := zeroStep
theorem built_rt : Try.prog.built 28 [] = some #[.slice none 0 0, .int .i64 0] := by kernel_rfl
theorem rt_cells (x : Value) (y : Int) (h : x.cells = #[x]) : (Value.agg #[x, .int .i64 y]).cells = #[x, .int .i64 y] := rfl
theorem Mem.one0 {w0 w : World} {own : List Nat} {p : Nat × Obj} {L : List (Nat × Obj)} (h : Mem w0 own (p :: L) w) : Mem w0 own [p] w := Mem.perm (L := [p]) ⟨h.os, h.tape, h.output, h.size, h.old, fun q hq => h.has q (by rw [List.mem_singleton.1 hq]; exact List.mem_cons_self ..), fun q hq => h.may q (by rw [List.mem_singleton.1 hq]; exact List.mem_cons_self ..), fun i j p q hi hj e => by
  have h1 := (List.getElem?_eq_some_iff.1 hi).1
  have h2 := (List.getElem?_eq_some_iff.1 hj).1
  simp at h1 h2
  omega⟩ (List.Perm.refl _)
theorem now_q {tb : Nat} {now : Int} {l : Tl} {B : List (Nat × Obj)} (hT : TmIs tb now l B) {A : List (Nat × Obj)} {w0 w : World} {own : List Nat} (hm : Mem w0 own (A ++ B) w) :
    Calls Try.prog 17 #[.pointer (some ⟨tb, 0, none⟩)] w fun e w' => e = .returned (.int .i64 now) ∧ Mem w0 own (A ++ B) w' := by
  obtain ⟨sl, mb, R, rfl, _⟩ := hT.head
  exact (now_c tb mb now w _ sl R hm.right.self).mono fun e w' ⟨he, hx⟩ => ⟨he, hm.callBehind hx⟩
theorem size_q {tb : Nat} {now : Int} {l : Tl} {B : List (Nat × Obj)} (hT : TmIs tb now l B) {A : List (Nat × Obj)} {w0 w : World} {own : List Nat} (hm : Mem w0 own (A ++ B) w) :
    Calls Try.prog 18 #[.pointer (some ⟨tb, 0, none⟩)] w fun e w' => e = .returned (.int .i64 (l.length : Int)) ∧ Mem w0 own (A ++ B) w' := by
  obtain ⟨n, mb, clock, es, f, h, h1, h2, h3, h4, h5, h6, h7, h8⟩ := hT
  rw [h5]
  rcases h8 with ⟨rfl, rfl⟩ | ⟨hb, cap, cur, g1, g2, g3, g4, rfl⟩
  · exact (size_c tb mb 0 0 now w _ none _ hm.right.self).mono fun e w' ⟨he, hx⟩ => ⟨he, hm.callBehind hx⟩
  · exact (size_c tb mb n cap now w _ (some ⟨hb, 0, none⟩) _ hm.right.self).mono fun e w' ⟨he, hx⟩ => ⟨he, hm.callBehind hx⟩
/-- Both answer alike. -/
theorem both_set (tb rb : Nat) (now id x : Int) (l : Tl) (hl : l.length ≤ 1000) : ∃ (q : Int) (l' : Tl), TmCall 8 #[.pointer (some ⟨tb, 0, none⟩), .int .i64 id, .int .i64 x] tb now l (.int .i64 q) now l' ∧
    RefCall 9 #[.pointer (some ⟨rb, 0, none⟩), .int .i64 id, .int .i64 x] rb now l (.int .i64 q) now l' := by
  by_cases ha : x < now
  · exact ⟨1, l, tm_set_arg tb now id x l ha, ref_set_arg rb now id x l ha⟩
  · by_cases hid : (∃ y ∈ l, y.1 = id) ∨ l.length < 1000
    · exact ⟨0, _, tm_set tb now id x l ha hid, ref_set rb now id x l ha hid⟩
    · have h1 : ∀ y ∈ l, y.1 ≠ id := fun y hy e => hid (.inl ⟨y, hy, e⟩)
      have h2 : l.length = 1000 := by
        have : ¬ l.length < 1000 := fun h => hid (.inr h)
        omega
      exact ⟨12, l, tm_set_full tb now id x l ha h1 h2, ref_set_full rb now id x l ha h1 h2⟩
theorem both_cancel (tb rb : Nat) (now id : Int) (l : Tl) (hn : (l.map (·.1)).Nodup) : ∃ (q : Bool) (l' : Tl), TmCall 10 #[.pointer (some ⟨tb, 0, none⟩), .int .i64 id] tb now l (.bool q) now l' ∧
    RefCall 11 #[.pointer (some ⟨rb, 0, none⟩), .int .i64 id] rb now l (.bool q) now l' := by
  by_cases hid : ∃ y ∈ l, y.1 = id
  · have := out_length hn hid
    exact ⟨true, _, tm_cancel tb now id l hid, ref_cancel rb now id l true (by rw [decide_eq_true_eq]; omega)⟩
  · have h1 : ∀ y ∈ l, y.1 ≠ id := fun y hy e => hid ⟨y, hy, e⟩
    have e := out_none h1
    have h2 := ref_cancel rb now id l false (by rw [e]; simp)
    rw [e] at h2
    exact ⟨false, l, tm_cancel_no tb now id l h1, h2⟩
theorem both_next (tb rb : Nat) (now : Int) (l : Tl) : ∃ (p q : Int) (b : Bool), TmCall 15 #[.pointer (some ⟨tb, 0, none⟩)] tb now l (.tuple #[.int .i64 p, .int .i64 q, .bool b]) now l ∧
    RefCall 16 #[.pointer (some ⟨rb, 0, none⟩)] rb now l (.tuple #[.int .i64 p, .int .i64 q, .bool b]) now l := by
  by_cases hl : l = []
  · subst hl
    exact ⟨0, 0, false, tm_next0 tb now, ref_next0 rb now⟩
  · obtain ⟨x, hx⟩ := first_ex l hl
    exact ⟨x.1, x.2, true, tm_next1 tb now l x hx, ref_next1 rb now l x hx⟩
attribute [local irreducible] wpQuiet wpList wpAnyH wpAnyG Calls

theorem does_out (c : Option Addr) (n cap : Nat) (h : 200 < n) : Says 3 #[.slice c n cap] (.bool true) := by
  intro w
  have g1 : decide ((200 : Int) < (n : Int)) = true := by rw [decide_eq_true_eq]; omega
  go_enter Try.func3, Try.ntmps3
  have hm := Mem.refl w []
  go_wp2_with ((first | refine wpList_skip (by rfl) ?_ | (refine wlL (hm := hm) (hu := by first | exact undStp) (hi := by (try simp only [rowOf_size]); first | exact sizeStp) (h := ?_); (try simp only [Act.put, k1, k2, k3]); (try simp only [List.nil_append])) | refine wlLC (hm := hm) (hu := by first | exact undInt | exact undRSl) (h := ?_) | (refine wlS (hm := hm) (hv := (by first | rfl | exact idV_eq _ | exact labV_eq _ _ | exact rectV_eq _ _ _ _)) (hi := by (try simp only [rowOf_size]); first | exact sizeStp) (hs := by first | (simp only [rowOf_size]; done) | rfl) (h := ?_); clear hm; intro w1 hm; (try simp only [rowOf_set, k1, k2, k3, Value.cells, Act.eval, k7, k8, k9, kA, Option.getD_some] at hm)) | (refine wlSC (hm := hm) (hi := by first | exact sizeInt | exact sizeRSl) (ho := by first | decide | (simp only [rowOf_size]; omega) | (simp; done)) (h := ?_); clear hm; intro w1 hm; (try simp only [rowOf_set, k1, k2, k3, Value.cells, Act.eval, k7, k8, k9, kA, Option.getD_some] at hm)) | (refine wlA (hz := by first | exact zeroStp) (hm := hm) (h := ?_); clear hm; intro b1 w1 hm; (try simp only [rowOf_set, k1, k2, k3, Value.cells, Act.eval, k7, k8, k9, kA, Option.getD_some] at hm)) | (refine wl_box (by rfl) rfl (by first | exact idV_cells _ | exact labV_cells _ _ | exact rectV_cells _ _ _ _ | rfl) hm ?_; clear hm; intro b1 w1 hm) | (refine wl_build (by rfl) (built_rt) rfl ?_; (try simp only [Act.put, k1, k2, k3]); (try simp only [List.nil_append])) | (go_at_call 19; refine (timed_c _).mono ?_; rintro e w1 ⟨rfl, hx⟩; replace hm := hm.call hx; clear hx) | (with_reducible first | refine stBs ?_ | refine stMs ?_ | refine stAp ?_ | refine stCo ?_)); (try simp only [k4, k5, k6, Act.put, k1, k2, k3]))
  go_ret
  exact ⟨rfl, hm.ext⟩
theorem does_in (c : Option Addr) (n cap : Nat) (st : Nat → Stp) (hn : n ≤ 200) (w : World) (h : StepsV w c n st) :
    Calls Try.prog 3 #[.slice c n cap] w fun e w' => e = .returned (.bool true) ∧ Ext w w' := by
  have g1 : decide ((200 : Int) < (n : Int)) = false := by rw [decide_eq_false_iff_not]; omega
  have H := hid h
  clear h
  go_enter Try.func3, Try.ntmps3
  go_wp2_with ((first | refine wpList_skip (by rfl) ?_ | (refine wlL (hm := hm) (hu := by first | exact undStp) (hi := by (try simp only [rowOf_size]); first | exact sizeStp) (h := ?_); (try simp only [Act.put, k1, k2, k3]); (try simp only [List.nil_append])) | refine wlLC (hm := hm) (hu := by first | exact undInt | exact undRSl) (h := ?_) | (refine wlS (hm := hm) (hv := (by first | rfl | exact idV_eq _ | exact labV_eq _ _ | exact rectV_eq _ _ _ _)) (hi := by (try simp only [rowOf_size]); first | exact sizeStp) (hs := by first | (simp only [rowOf_size]; done) | rfl) (h := ?_); clear hm; intro w1 hm; (try simp only [rowOf_set, k1, k2, k3, Value.cells, Act.eval, k7, k8, k9, kA, Option.getD_some] at hm)) | (refine wlSC (hm := hm) (hi := by first | exact sizeInt | exact sizeRSl) (ho := by first | decide | (simp only [rowOf_size]; omega) | (simp; done)) (h := ?_); clear hm; intro w1 hm; (try simp only [rowOf_set, k1, k2, k3, Value.cells, Act.eval, k7, k8, k9, kA, Option.getD_some] at hm)) | (refine wlA (hz := by first | exact zeroStp) (hm := hm) (h := ?_); clear hm; intro b1 w1 hm; (try simp only [rowOf_set, k1, k2, k3, Value.cells, Act.eval, k7, k8, k9, kA, Option.getD_some] at hm)) | (refine wl_box (by rfl) rfl (by first | exact idV_cells _ | exact labV_cells _ _ | exact rectV_cells _ _ _ _ | rfl) hm ?_; clear hm; intro b1 w1 hm) | (refine wl_build (by rfl) (built_rt) rfl ?_; (try simp only [Act.put, k1, k2, k3]); (try simp only [List.nil_append])) | (go_at_call 19; refine (timed_c _).mono ?_; rintro e w1 ⟨rfl, hx⟩; replace hm := hm.call hx; clear hx) | (with_reducible first | refine stBs ?_ | refine stMs ?_ | refine stAp ?_ | refine stCo ?_)); (try simp only [k4, k5, k6, Act.put, k1, k2, k3]))
  refine (new_c _).mono ?_
  rintro e w1 ⟨tb, mb, rfl, hm⟩
  have hT := TmIs.fresh tb mb
  generalize ([(tb, _), (mb, _)] : List (Nat × Obj)) = B at hT hm
  go_wp2_with (with_reducible first | refine stAl ?_ | refine stBo ?_ | refine stLo ?_ | refine stSo ?_ | refine stBu ?_ | refine stBs ?_ | refine stMs ?_ | refine stAp ?_ | refine stCo ?_); refine Stop.go (wl_build (by rfl) (built_rt) (by simp [Act.eval]) ?_); simp only [Act.put, k1, k2, k3]
  go_wp2_with (with_reducible first | refine stAl ?_ | refine stBo ?_ | refine stLo ?_ | refine stSo ?_ | refine stBu ?_ | refine stBs ?_ | refine stMs ?_ | refine stAp ?_ | refine stCo ?_); refine Stop.go (wl_box (by rfl) rfl (rt_cells _ _ rfl) hm ?_); clear hm; intro rb w2 hm; simp only [Act.put, k1, k2, k3]; (try simp only [rowOf_set, k1, k2, k3, Value.cells, Act.eval, k7, k8, k9, kA, Option.getD_some] at hm)
  have hU : RefIs rb 0 [] [(rb, .cells #[.slice none 0 0, .int .i64 0] 28 (0, 0))] := ⟨_, [], .inl ⟨rfl, rfl, rfl⟩, by simp, rfl⟩
  replace hm : Mem w [] ([(rb, .cells #[.slice none 0 0, .int .i64 0] 28 (0, 0))] ++ B) w2 := hm
  generalize ([(rb, _)] : List (Nat × Obj)) = R at hm hU
  go_wp2_with ((first | refine wpList_skip (by rfl) ?_ | (refine wlL (hm := hm) (hu := by first | exact undStp) (hi := by (try simp only [rowOf_size]); first | exact sizeStp) (h := ?_); (try simp only [Act.put, k1, k2, k3]); (try simp only [List.nil_append])) | refine wlLC (hm := hm) (hu := by first | exact undInt | exact undRSl) (h := ?_) | (refine wlS (hm := hm) (hv := (by first | rfl | exact idV_eq _ | exact labV_eq _ _ | exact rectV_eq _ _ _ _)) (hi := by (try simp only [rowOf_size]); first | exact sizeStp) (hs := by first | (simp only [rowOf_size]; done) | rfl) (h := ?_); clear hm; intro w1 hm; (try simp only [rowOf_set, k1, k2, k3, Value.cells, Act.eval, k7, k8, k9, kA, Option.getD_some] at hm)) | (refine wlSC (hm := hm) (hi := by first | exact sizeInt | exact sizeRSl) (ho := by first | decide | (simp only [rowOf_size]; omega) | (simp; done)) (h := ?_); clear hm; intro w1 hm; (try simp only [rowOf_set, k1, k2, k3, Value.cells, Act.eval, k7, k8, k9, kA, Option.getD_some] at hm)) | (refine wlA (hz := by first | exact zeroStp) (hm := hm) (h := ?_); clear hm; intro b1 w1 hm; (try simp only [rowOf_set, k1, k2, k3, Value.cells, Act.eval, k7, k8, k9, kA, Option.getD_some] at hm)) | (refine wl_box (by rfl) rfl (by first | exact idV_cells _ | exact labV_cells _ _ | exact rectV_cells _ _ _ _ | rfl) hm ?_; clear hm; intro b1 w1 hm) | (refine wl_build (by rfl) (built_rt) rfl ?_; (try simp only [Act.put, k1, k2, k3]); (try simp only [List.nil_append])) | (go_at_call 19; refine (timed_c _).mono ?_; rintro e w1 ⟨rfl, hx⟩; replace hm := hm.call hx; clear hx) | (with_reducible first | refine stBs ?_ | refine stMs ?_ | refine stAp ?_ | refine stCo ?_)); (try simp only [k4, k5, k6, Act.put, k1, k2, k3]))
  go_loopw [5, 6, 7, 8, 9, 10, 11, 12, 13, 14, 15, 16] (fun vi v6 v7 v8 v9 v10 v11 v12 v13 v14 v15 v16 wr => ∃ (i : Nat) (l : Tl) (now : Int) (B R : List (Nat × Obj)), i ≤ n ∧ vi = .int .i64 (i : Int) ∧ TmIs tb now l B ∧ RefIs rb now l R ∧ Mem w [] (R ++ B) wr) (fun vi _ _ _ _ _ _ _ _ _ _ _ _ => (n - intOf vi).toNat)
  case atStart => exact ⟨0, [], 0, B, R, by omega, rfl, hT, hU, hm⟩
  case round =>
    clear hm hT hU
    obtain ⟨i, l, now, B, R, hi, rfl, hT, hU, hm⟩ := hrel
    by_cases hin : i < n
    · obtain ⟨a, rfl, hcell⟩ := H.out i hin
      have hcell' : ∀ j v, (#[.int .i64 (st i).1, .int .i64 (st i).2.1, .int .i64 (st i).2.2] : Array Value).toList[j]? = some v → wr.cell? ((a.add (i * 3)).add j) = some v := fun j v hj => cell_old hm (hcell j v hj)
      have e1 : (i : Int) < (n : Int) := by omega
      have e2 : (0 : Int) ≤ (i : Int) := by omega
      have g3 : IntKind.i64.wrap ((i : Int) + 1) = (i : Int) + 1 := wrap_i64 (by omega) (by omega)
      obtain ⟨kd, hkd⟩ : ∃ x, (st i).1 = x := ⟨_, rfl⟩
      obtain ⟨id, hid'⟩ : ∃ x, (st i).2.1 = x := ⟨_, rfl⟩
      obtain ⟨x, hx⟩ : ∃ x, (st i).2.2 = x := ⟨_, rfl⟩
      rw [hkd, hid', hx] at hcell'
      have HC := Go.Proofs.Ythcpdjlomdchdaa.hid hcell'
      clear hcell hcell' hkd hid' hx
      go_wp2_with (with_reducible first | refine stAl ?_ | refine stBo ?_ | refine stLo ?_ | refine stSo ?_ | refine stBu ?_ | refine stBs ?_ | refine stMs ?_ | refine stAp ?_ | refine stCo ?_)
      refine Stop.go (wl_loadOldRow (cs := #[.int .i64 kd, .int .i64 id, .int .i64 x]) (by rfl) rfl (by first | exact HC.out | simpa using HC.out) undStep rfl sizeStep ?_); simp only [Act.put, k1, k2, k3]
      clear HC
      go_wp2_with (with_reducible first | refine stAl ?_ | refine stBo ?_ | refine stLo ?_ | refine stSo ?_ | refine stBu ?_ | refine stBs ?_ | refine stMs ?_ | refine stAp ?_ | refine stCo ?_); refine Stop.go (wl_alloc (by rfl) zeroStp rfl hm ?_); clear hm; intro sb w3 hm; simp only [Act.put, k1, k2, k3]; (try simp only [rowOf_set, k1, k2, k3, Value.cells, Act.eval, k7, k8, k9, kA, Option.getD_some] at hm)
      go_wp2_with (with_reducible first | refine stAl ?_ | refine stBo ?_ | refine stLo ?_ | refine stSo ?_ | refine stBu ?_ | refine stBs ?_ | refine stMs ?_ | refine stAp ?_ | refine stCo ?_); refine Stop.go (wl_store (i := 0) (by rfl) hm rfl rfl rfl (by first | rfl | exact idV_eq _ | exact labV_eq _ _ | exact rectV_eq _ _ _ _) (by first | exact sizeStp | (simp only [rowOf_size]; exact sizeStp)) (by first | (simp only [rowOf_size]; done) | rfl) (by first | rfl | (simp only [List.size_toArray, List.length_cons, List.all_toArray', List.all_cons, List.all_nil, Value.oneCell', Bool.and_true, Bool.and_self]; done) | (simp [Value.oneCell']; done) | exact rowOf_one _ _ (fun _ _ => rfl) | exact idC_one _ | (exact rowOf_one _ _ (by intro i _; repeat (first | rfl | split)))) ?_); clear hm; intro w4 hm; simp only [Act.put, k1, k2, k3]; simp only [rowOf_set, k1, k2, k3, Value.cells, Act.eval, k7, k8, k9, kA, Option.getD_some] at hm
      by_cases k0 : kd = 0
      · have d0 : (kd == 0) = true := by simp [k0]
        clear k0
        obtain ⟨q, l2, h1, h2⟩ := both_set tb rb now id x l hT.most
        have dq : (q != q) = false := by simp
        go_wp2_with ((first | refine wpList_skip (by rfl) ?_ | (refine wlL (hm := hm) (hu := by first | exact undStp) (hi := by (try simp only [rowOf_size]); first | exact sizeStp) (h := ?_); (try simp only [Act.put, k1, k2, k3]); (try simp only [List.nil_append])) | refine wlLC (hm := hm) (hu := by first | exact undInt | exact undRSl) (h := ?_) | (refine wlS (hm := hm) (hv := (by first | rfl | exact idV_eq _ | exact labV_eq _ _ | exact rectV_eq _ _ _ _)) (hi := by (try simp only [rowOf_size]); first | exact sizeStp) (hs := by first | (simp only [rowOf_size]; done) | rfl) (h := ?_); clear hm; intro w1 hm; (try simp only [rowOf_set, k1, k2, k3, Value.cells, Act.eval, k7, k8, k9, kA, Option.getD_some] at hm)) | (refine wlSC (hm := hm) (hi := by first | exact sizeInt | exact sizeRSl) (ho := by first | decide | (simp only [rowOf_size]; omega) | (simp; done)) (h := ?_); clear hm; intro w1 hm; (try simp only [rowOf_set, k1, k2, k3, Value.cells, Act.eval, k7, k8, k9, kA, Option.getD_some] at hm)) | (refine wlA (hz := by first | exact zeroStp) (hm := hm) (h := ?_); clear hm; intro b1 w1 hm; (try simp only [rowOf_set, k1, k2, k3, Value.cells, Act.eval, k7, k8, k9, kA, Option.getD_some] at hm)) | (refine wl_box (by rfl) rfl (by first | exact idV_cells _ | exact labV_cells _ _ | exact rectV_cells _ _ _ _ | rfl) hm ?_; clear hm; intro b1 w1 hm) | (refine wl_build (by rfl) (built_rt) rfl ?_; (try simp only [Act.put, k1, k2, k3]); (try simp only [List.nil_append])) | (go_at_call 19; refine (timed_c _).mono ?_; rintro e w1 ⟨rfl, hx⟩; replace hm := hm.call hx; clear hx) | (with_reducible first | refine stBs ?_ | refine stMs ?_ | refine stAp ?_ | refine stCo ?_)); (try simp only [k4, k5, k6, Act.put, k1, k2, k3]))
        refine wp_region_G (C := [(100, Mem w [] [(sb, .cells #[.int .i64 kd, .int .i64 id, .int .i64 x] 30 (0, 0))])]) (by kernel_rfl) ?_
        replace hm := hm.drew
        have hS : Held [(100, Mem w [] [(sb, .cells #[.int .i64 kd, .int .i64 id, .int .i64 x] 30 (0, 0))])] [] _ := Held.cons hm.one0 (Held.nil _ _)
        refine wgS (i := 0) 0 (hS := hS) (h := ?_)
        simp only [k4, k5, k6, Act.put, k1, k2, k3]
        refine wgS (i := 1) 0 (hS := hS) (h := ?_)
        simp only [k4, k5, k6, Act.put, k1, k2, k3]
        refine wgS (i := 2) 0 (hS := hS) (h1 := ld_cell (i := 0) (off := 1) rfl rfl rfl undInt rfl) (h := ?_)
        simp only [k4, k5, k6, Act.put, k1, k2, k3]
        refine wgS (i := 3) 0 (hS := hS) (h := ?_)
        simp only [k4, k5, k6, Act.put, k1, k2, k3]
        refine wgS (i := 4) 0 (hS := hS) (h1 := ld_cell (i := 0) (off := 2) rfl rfl rfl undInt rfl) (h := ?_)
        simp only [k4, k5, k6, Act.put, k1, k2, k3]
        refine wgS (i := 6) 0 (hS := hS) (h := ?_)
        simp only [k4, k5, k6, Act.put, k1, k2, k3]
        refine wgS (i := 7) 0 (hS := hS) (h := ?_)
        simp only [k4, k5, k6, Act.put, k1, k2, k3]
        refine wgS (i := 8) 0 (hS := hS) (h1 := ld_cell (i := 0) (off := 1) rfl rfl rfl undInt rfl) (h := ?_)
        simp only [k4, k5, k6, Act.put, k1, k2, k3]
        refine wgS (i := 9) 0 (hS := hS) (h := ?_)
        simp only [k4, k5, k6, Act.put, k1, k2, k3]
        refine wgS (i := 10) 0 (hS := hS) (h1 := ld_cell (i := 0) (off := 2) rfl rfl rfl undInt rfl) (h := ?_)
        simp only [k4, k5, k6, Act.put, k1, k2, k3]
        refine wgO (i := 5) (done := []) (h := fun K' hK => ?_)
        (try go_simp)
        replace hm := hm.perm (M := ((sb, .cells #[.int .i64 kd, .int .i64 id, .int .i64 x] 30 (0, 0)) :: R) ++ B) (perm_of fun x => by simp only [cnt_append, cnt_cons]; omega)
        refine (h1.use hT hm).mono ?_
        clear hS
        rintro e w6 ⟨rfl, B', hT', hm'⟩
        clear hm hT B
        have hm := hm'
        have hT := hT'
        clear hm' hT'
        generalize B' = B at hm hT
        have hS : Held [(100, Mem w [] [(sb, .cells #[.int .i64 kd, .int .i64 id, .int .i64 x] 30 (0, 0))])] [] _ := Held.cons hm.one0 (Held.nil _ _)
        refine hK.out _ _ hS ?_
        clear hK K'
        (try (simp only [k4, k5, k6, Act.put, k1, k2, k3]))
        refine wgO (i := 11) (done := []) (h := fun K' hK => ?_)
        (try go_simp)
        replace hm := hm.perm (M := ((sb, .cells #[.int .i64 kd, .int .i64 id, .int .i64 x] 30 (0, 0)) :: B) ++ R) (perm_of fun x => by simp only [cnt_append, cnt_cons]; omega)
        refine (h2.use hU hm).mono ?_
        clear hS
        rintro e w6 ⟨rfl, R', hU', hm'⟩
        clear hm hU R
        have hm := hm'
        have hU := hU'
        clear hm' hU'
        generalize R' = R at hm hU
        have hS : Held [(100, Mem w [] [(sb, .cells #[.int .i64 kd, .int .i64 id, .int .i64 x] 30 (0, 0))])] [] _ := Held.cons hm.one0 (Held.nil _ _)
        refine hK.out _ _ hS ?_
        clear hK K'
        (try (simp only [k4, k5, k6, Act.put, k1, k2, k3]))
        refine wgS (i := 12) 0 (hS := hS) (h := ?_)
        simp only [k4, k5, k6, Act.put, k1, k2, k3]
        refine wgE (h := ?_)
        clear hS
        generalize l2 = l at hT hU
        go_wp2_with ((first | refine wpList_skip (by rfl) ?_ | (refine wlL (hm := hm) (hu := by first | exact undStp) (hi := by (try simp only [rowOf_size]); first | exact sizeStp) (h := ?_); (try simp only [Act.put, k1, k2, k3]); (try simp only [List.nil_append])) | refine wlLC (hm := hm) (hu := by first | exact undInt | exact undRSl) (h := ?_) | (refine wlS (hm := hm) (hv := (by first | rfl | exact idV_eq _ | exact labV_eq _ _ | exact rectV_eq _ _ _ _)) (hi := by (try simp only [rowOf_size]); first | exact sizeStp) (hs := by first | (simp only [rowOf_size]; done) | rfl) (h := ?_); clear hm; intro w1 hm; (try simp only [rowOf_set, k1, k2, k3, Value.cells, Act.eval, k7, k8, k9, kA, Option.getD_some] at hm)) | (refine wlSC (hm := hm) (hi := by first | exact sizeInt | exact sizeRSl) (ho := by first | decide | (simp only [rowOf_size]; omega) | (simp; done)) (h := ?_); clear hm; intro w1 hm; (try simp only [rowOf_set, k1, k2, k3, Value.cells, Act.eval, k7, k8, k9, kA, Option.getD_some] at hm)) | (refine wlA (hz := by first | exact zeroStp) (hm := hm) (h := ?_); clear hm; intro b1 w1 hm; (try simp only [rowOf_set, k1, k2, k3, Value.cells, Act.eval, k7, k8, k9, kA, Option.getD_some] at hm)) | (refine wl_box (by rfl) rfl (by first | exact idV_cells _ | exact labV_cells _ _ | exact rectV_cells _ _ _ _ | rfl) hm ?_; clear hm; intro b1 w1 hm) | (refine wl_build (by rfl) (built_rt) rfl ?_; (try simp only [Act.put, k1, k2, k3]); (try simp only [List.nil_append])) | (go_at_call 19; refine (timed_c _).mono ?_; rintro e w1 ⟨rfl, hx⟩; replace hm := hm.call hx; clear hx) | (with_reducible first | refine stBs ?_ | refine stMs ?_ | refine stAp ?_ | refine stCo ?_)); (try simp only [k4, k5, k6, Act.put, k1, k2, k3]))
        replace hm := hm.perm (M := ((sb, .cells #[.int .i64 kd, .int .i64 id, .int .i64 x] 30 (0, 0)) :: R) ++ B) (perm_of fun x => by simp only [cnt_append, cnt_cons]; omega)
        obtain ⟨np, nq, nb, n1, n2⟩ := both_next tb rb now l
        refine (n1.use hT hm).mono ?_
        clear hm hT
        rintro e w8 ⟨rfl, B1, hT, hm⟩
        go_wp2_with ((first | refine wpList_skip (by rfl) ?_ | (refine wlL (hm := hm) (hu := by first | exact undStp) (hi := by (try simp only [rowOf_size]); first | exact sizeStp) (h := ?_); (try simp only [Act.put, k1, k2, k3]); (try simp only [List.nil_append])) | refine wlLC (hm := hm) (hu := by first | exact undInt | exact undRSl) (h := ?_) | (refine wlS (hm := hm) (hv := (by first | rfl | exact idV_eq _ | exact labV_eq _ _ | exact rectV_eq _ _ _ _)) (hi := by (try simp only [rowOf_size]); first | exact sizeStp) (hs := by first | (simp only [rowOf_size]; done) | rfl) (h := ?_); clear hm; intro w1 hm; (try simp only [rowOf_set, k1, k2, k3, Value.cells, Act.eval, k7, k8, k9, kA, Option.getD_some] at hm)) | (refine wlSC (hm := hm) (hi := by first | exact sizeInt | exact sizeRSl) (ho := by first | decide | (simp only [rowOf_size]; omega) | (simp; done)) (h := ?_); clear hm; intro w1 hm; (try simp only [rowOf_set, k1, k2, k3, Value.cells, Act.eval, k7, k8, k9, kA, Option.getD_some] at hm)) | (refine wlA (hz := by first | exact zeroStp) (hm := hm) (h := ?_); clear hm; intro b1 w1 hm; (try simp only [rowOf_set, k1, k2, k3, Value.cells, Act.eval, k7, k8, k9, kA, Option.getD_some] at hm)) | (refine wl_box (by rfl) rfl (by first | exact idV_cells _ | exact labV_cells _ _ | exact rectV_cells _ _ _ _ | rfl) hm ?_; clear hm; intro b1 w1 hm) | (refine wl_build (by rfl) (built_rt) rfl ?_; (try simp only [Act.put, k1, k2, k3]); (try simp only [List.nil_append])) | (go_at_call 19; refine (timed_c _).mono ?_; rintro e w1 ⟨rfl, hx⟩; replace hm := hm.call hx; clear hx) | (with_reducible first | refine stBs ?_ | refine stMs ?_ | refine stAp ?_ | refine stCo ?_)); (try simp only [k4, k5, k6, Act.put, k1, k2, k3]))
        replace hm := hm.perm (M := ((sb, .cells #[.int .i64 kd, .int .i64 id, .int .i64 x] 30 (0, 0)) :: B1) ++ R) (perm_of fun x => by simp only [cnt_append, cnt_cons]; omega)
        refine (n2.use hU hm).mono ?_
        clear hm hU n1 n2
        rintro e w9 ⟨rfl, R1, hU, hm⟩
        go_wp2_with ((first | refine wpList_skip (by rfl) ?_ | (refine wlL (hm := hm) (hu := by first | exact undStp) (hi := by (try simp only [rowOf_size]); first | exact sizeStp) (h := ?_); (try simp only [Act.put, k1, k2, k3]); (try simp only [List.nil_append])) | refine wlLC (hm := hm) (hu := by first | exact undInt | exact undRSl) (h := ?_) | (refine wlS (hm := hm) (hv := (by first | rfl | exact idV_eq _ | exact labV_eq _ _ | exact rectV_eq _ _ _ _)) (hi := by (try simp only [rowOf_size]); first | exact sizeStp) (hs := by first | (simp only [rowOf_size]; done) | rfl) (h := ?_); clear hm; intro w1 hm; (try simp only [rowOf_set, k1, k2, k3, Value.cells, Act.eval, k7, k8, k9, kA, Option.getD_some] at hm)) | (refine wlSC (hm := hm) (hi := by first | exact sizeInt | exact sizeRSl) (ho := by first | decide | (simp only [rowOf_size]; omega) | (simp; done)) (h := ?_); clear hm; intro w1 hm; (try simp only [rowOf_set, k1, k2, k3, Value.cells, Act.eval, k7, k8, k9, kA, Option.getD_some] at hm)) | (refine wlA (hz := by first | exact zeroStp) (hm := hm) (h := ?_); clear hm; intro b1 w1 hm; (try simp only [rowOf_set, k1, k2, k3, Value.cells, Act.eval, k7, k8, k9, kA, Option.getD_some] at hm)) | (refine wl_box (by rfl) rfl (by first | exact idV_cells _ | exact labV_cells _ _ | exact rectV_cells _ _ _ _ | rfl) hm ?_; clear hm; intro b1 w1 hm) | (refine wl_build (by rfl) (built_rt) rfl ?_; (try simp only [Act.put, k1, k2, k3]); (try simp only [List.nil_append])) | (go_at_call 19; refine (timed_c _).mono ?_; rintro e w1 ⟨rfl, hx⟩; replace hm := hm.call hx; clear hx) | (with_reducible first | refine stBs ?_ | refine stMs ?_ | refine stAp ?_ | refine stCo ?_)); (try simp only [k4, k5, k6, Act.put, k1, k2, k3]))
        have hU0 := hU
        obtain ⟨sv, S, hS, hl, rfl⟩ := hU0
        obtain ⟨c', cap', rfl⟩ := hS.len
        replace hm : Mem w [] ((sb, .cells #[.int .i64 kd, .int .i64 id, .int .i64 x] 30 (0, 0)) :: (B1 ++ ((rb, .cells #[.slice c' l.length cap', .int .i64 now] 28 (0, 0)) :: S))) w9 := hm
        replace hm := hm.tail.perm (M := (rb, .cells #[.slice c' l.length cap', .int .i64 now] 28 (0, 0)) :: (S ++ B1)) (perm_of fun x => by simp only [cnt_append, cnt_cons]; omega)
        have d1 : (np != np) = false := by simp
        have d2 : (nq != nq) = false := by simp
        have d3 : (nb != nb) = false := by simp
        have d4 : (now != now) = false := by simp
        have d5 : ((l.length : Int) != (l.length : Int)) = false := by simp
        have d6 : (l.length != l.length) = false := by simp
        refine wp_quiet_mem (by kernel_rfl) (by kernel_rfl) hm ?_
        repeat ((first | refine wq_skip (by rfl) ?_ | (refine wqL (hu := by first | exact undStp) (hi := by (try simp only [rowOf_size]); first | exact sizeStp) (h := ?_); (try simp only [Act.put, k1, k2, k3]); (try simp only [List.nil_append])) | refine wqLC (hu := by first | exact undInt | exact undRSl) (h := ?_) | ((with_reducible show wpQuiet _ _ _ _ (⟨_, .call _, _, _, _, _⟩ :: _) _); refine wq_ask (by rfl) ?_; apply Exists.intro; refine ⟨?_, ?_⟩; (focus (intro w hC; go_simp; first | (go_at_call 17; exact now_q hT (A := (rb, _) :: S) hC) | (go_at_call 18; exact size_q hT (A := (rb, _) :: S) hC)))) | (refine wq_build (by rfl) (built_rt) rfl ?_; (try simp only [Act.put, k1, k2, k3]); (try simp only [List.nil_append])) | refine wqS (h := ?_)); (try simp only [k4, k5, k6, Act.put, k1, k2, k3]))
        refine wpQuiet_nil ?_; clear hm; intro w10 hm
        go_wp2_with ((first | refine wpList_skip (by rfl) ?_ | (refine wlL (hm := hm) (hu := by first | exact undStp) (hi := by (try simp only [rowOf_size]); first | exact sizeStp) (h := ?_); (try simp only [Act.put, k1, k2, k3]); (try simp only [List.nil_append])) | refine wlLC (hm := hm) (hu := by first | exact undInt | exact undRSl) (h := ?_) | (refine wlS (hm := hm) (hv := (by first | rfl | exact idV_eq _ | exact labV_eq _ _ | exact rectV_eq _ _ _ _)) (hi := by (try simp only [rowOf_size]); first | exact sizeStp) (hs := by first | (simp only [rowOf_size]; done) | rfl) (h := ?_); clear hm; intro w1 hm; (try simp only [rowOf_set, k1, k2, k3, Value.cells, Act.eval, k7, k8, k9, kA, Option.getD_some] at hm)) | (refine wlSC (hm := hm) (hi := by first | exact sizeInt | exact sizeRSl) (ho := by first | decide | (simp only [rowOf_size]; omega) | (simp; done)) (h := ?_); clear hm; intro w1 hm; (try simp only [rowOf_set, k1, k2, k3, Value.cells, Act.eval, k7, k8, k9, kA, Option.getD_some] at hm)) | (refine wlA (hz := by first | exact zeroStp) (hm := hm) (h := ?_); clear hm; intro b1 w1 hm; (try simp only [rowOf_set, k1, k2, k3, Value.cells, Act.eval, k7, k8, k9, kA, Option.getD_some] at hm)) | (refine wl_box (by rfl) rfl (by first | exact idV_cells _ | exact labV_cells _ _ | exact rectV_cells _ _ _ _ | rfl) hm ?_; clear hm; intro b1 w1 hm) | (refine wl_build (by rfl) (built_rt) rfl ?_; (try simp only [Act.put, k1, k2, k3]); (try simp only [List.nil_append])) | (go_at_call 19; refine (timed_c _).mono ?_; rintro e w1 ⟨rfl, hx⟩; replace hm := hm.call hx; clear hx) | (with_reducible first | refine stBs ?_ | refine stMs ?_ | refine stAp ?_ | refine stCo ?_)); (try simp only [k4, k5, k6, Act.put, k1, k2, k3]))
        go_roundw
        case rel => exact ⟨i + 1, l, now, B1, _, by omega, by go_num, hT, hU, hm⟩
        case measure => (simp [intOf]; try omega)
      · have d0 : (kd == 0) = false := by simp [k0]
        clear k0
        by_cases k1' : kd = 1
        · have d1' : (kd == 1) = true := by simp [k1']
          clear k1'
          obtain ⟨q, l2, h1, h2⟩ := both_cancel tb rb now id l hT.nodup
          have dq : (q != q) = false := by simp
          go_wp2_with ((first | refine wpList_skip (by rfl) ?_ | (refine wlL (hm := hm) (hu := by first | exact undStp) (hi := by (try simp only [rowOf_size]); first | exact sizeStp) (h := ?_); (try simp only [Act.put, k1, k2, k3]); (try simp only [List.nil_append])) | refine wlLC (hm := hm) (hu := by first | exact undInt | exact undRSl) (h := ?_) | (refine wlS (hm := hm) (hv := (by first | rfl | exact idV_eq _ | exact labV_eq _ _ | exact rectV_eq _ _ _ _)) (hi := by (try simp only [rowOf_size]); first | exact sizeStp) (hs := by first | (simp only [rowOf_size]; done) | rfl) (h := ?_); clear hm; intro w1 hm; (try simp only [rowOf_set, k1, k2, k3, Value.cells, Act.eval, k7, k8, k9, kA, Option.getD_some] at hm)) | (refine wlSC (hm := hm) (hi := by first | exact sizeInt | exact sizeRSl) (ho := by first | decide | (simp only [rowOf_size]; omega) | (simp; done)) (h := ?_); clear hm; intro w1 hm; (try simp only [rowOf_set, k1, k2, k3, Value.cells, Act.eval, k7, k8, k9, kA, Option.getD_some] at hm)) | (refine wlA (hz := by first | exact zeroStp) (hm := hm) (h := ?_); clear hm; intro b1 w1 hm; (try simp only [rowOf_set, k1, k2, k3, Value.cells, Act.eval, k7, k8, k9, kA, Option.getD_some] at hm)) | (refine wl_box (by rfl) rfl (by first | exact idV_cells _ | exact labV_cells _ _ | exact rectV_cells _ _ _ _ | rfl) hm ?_; clear hm; intro b1 w1 hm) | (refine wl_build (by rfl) (built_rt) rfl ?_; (try simp only [Act.put, k1, k2, k3]); (try simp only [List.nil_append])) | (go_at_call 19; refine (timed_c _).mono ?_; rintro e w1 ⟨rfl, hx⟩; replace hm := hm.call hx; clear hx) | (with_reducible first | refine stBs ?_ | refine stMs ?_ | refine stAp ?_ | refine stCo ?_)); (try simp only [k4, k5, k6, Act.put, k1, k2, k3]))
          refine wp_region_G (C := [(100, Mem w [] [(sb, .cells #[.int .i64 kd, .int .i64 id, .int .i64 x] 30 (0, 0))])]) (by kernel_rfl) ?_
          replace hm := hm.drew
          have hS : Held [(100, Mem w [] [(sb, .cells #[.int .i64 kd, .int .i64 id, .int .i64 x] 30 (0, 0))])] [] _ := Held.cons hm.one0 (Held.nil _ _)
          refine wgS (i := 0) 0 (hS := hS) (h := ?_)
          simp only [k4, k5, k6, Act.put, k1, k2, k3]
          refine wgS (i := 1) 0 (hS := hS) (h := ?_)
          simp only [k4, k5, k6, Act.put, k1, k2, k3]
          refine wgS (i := 2) 0 (hS := hS) (h1 := ld_cell (i := 0) (off := 1) rfl rfl rfl undInt rfl) (h := ?_)
          simp only [k4, k5, k6, Act.put, k1, k2, k3]
          refine wgS (i := 4) 0 (hS := hS) (h := ?_)
          simp only [k4, k5, k6, Act.put, k1, k2, k3]
          refine wgS (i := 5) 0 (hS := hS) (h := ?_)
          simp only [k4, k5, k6, Act.put, k1, k2, k3]
          refine wgS (i := 6) 0 (hS := hS) (h1 := ld_cell (i := 0) (off := 1) rfl rfl rfl undInt rfl) (h := ?_)
          simp only [k4, k5, k6, Act.put, k1, k2, k3]
          refine wgO (i := 3) (done := []) (h := fun K' hK => ?_)
          (try go_simp)
          replace hm := hm.perm (M := ((sb, .cells #[.int .i64 kd, .int .i64 id, .int .i64 x] 30 (0, 0)) :: R) ++ B) (perm_of fun x => by simp only [cnt_append, cnt_cons]; omega)
          refine (h1.use hT hm).mono ?_
          clear hS
          rintro e w6 ⟨rfl, B', hT', hm'⟩
          clear hm hT B
          have hm := hm'
          have hT := hT'
          clear hm' hT'
          generalize B' = B at hm hT
          have hS : Held [(100, Mem w [] [(sb, .cells #[.int .i64 kd, .int .i64 id, .int .i64 x] 30 (0, 0))])] [] _ := Held.cons hm.one0 (Held.nil _ _)
          refine hK.out _ _ hS ?_
          clear hK K'
          (try (simp only [k4, k5, k6, Act.put, k1, k2, k3]))
          refine wgO (i := 7) (done := []) (h := fun K' hK => ?_)
          (try go_simp)
          replace hm := hm.perm (M := ((sb, .cells #[.int .i64 kd, .int .i64 id, .int .i64 x] 30 (0, 0)) :: B) ++ R) (perm_of fun x => by simp only [cnt_append, cnt_cons]; omega)
          refine (h2.use hU hm).mono ?_
          clear hS
          rintro e w6 ⟨rfl, R', hU', hm'⟩
          clear hm hU R
          have hm := hm'
          have hU := hU'
          clear hm' hU'
          generalize R' = R at hm hU
          have hS : Held [(100, Mem w [] [(sb, .cells #[.int .i64 kd, .int .i64 id, .int .i64 x] 30 (0, 0))])] [] _ := Held.cons hm.one0 (Held.nil _ _)
          refine hK.out _ _ hS ?_
          clear hK K'
          (try (simp only [k4, k5, k6, Act.put, k1, k2, k3]))
          refine wgS (i := 8) 0 (hS := hS) (h := ?_)
          simp only [k4, k5, k6, Act.put, k1, k2, k3]
          refine wgE (h := ?_)
          clear hS
          generalize l2 = l at hT hU
          go_wp2_with ((first | refine wpList_skip (by rfl) ?_ | (refine wlL (hm := hm) (hu := by first | exact undStp) (hi := by (try simp only [rowOf_size]); first | exact sizeStp) (h := ?_); (try simp only [Act.put, k1, k2, k3]); (try simp only [List.nil_append])) | refine wlLC (hm := hm) (hu := by first | exact undInt | exact undRSl) (h := ?_) | (refine wlS (hm := hm) (hv := (by first | rfl | exact idV_eq _ | exact labV_eq _ _ | exact rectV_eq _ _ _ _)) (hi := by (try simp only [rowOf_size]); first | exact sizeStp) (hs := by first | (simp only [rowOf_size]; done) | rfl) (h := ?_); clear hm; intro w1 hm; (try simp only [rowOf_set, k1, k2, k3, Value.cells, Act.eval, k7, k8, k9, kA, Option.getD_some] at hm)) | (refine wlSC (hm := hm) (hi := by first | exact sizeInt | exact sizeRSl) (ho := by first | decide | (simp only [rowOf_size]; omega) | (simp; done)) (h := ?_); clear hm; intro w1 hm; (try simp only [rowOf_set, k1, k2, k3, Value.cells, Act.eval, k7, k8, k9, kA, Option.getD_some] at hm)) | (refine wlA (hz := by first | exact zeroStp) (hm := hm) (h := ?_); clear hm; intro b1 w1 hm; (try simp only [rowOf_set, k1, k2, k3, Value.cells, Act.eval, k7, k8, k9, kA, Option.getD_some] at hm)) | (refine wl_box (by rfl) rfl (by first | exact idV_cells _ | exact labV_cells _ _ | exact rectV_cells _ _ _ _ | rfl) hm ?_; clear hm; intro b1 w1 hm) | (refine wl_build (by rfl) (built_rt) rfl ?_; (try simp only [Act.put, k1, k2, k3]); (try simp only [List.nil_append])) | (go_at_call 19; refine (timed_c _).mono ?_; rintro e w1 ⟨rfl, hx⟩; replace hm := hm.call hx; clear hx) | (with_reducible first | refine stBs ?_ | refine stMs ?_ | refine stAp ?_ | refine stCo ?_)); (try simp only [k4, k5, k6, Act.put, k1, k2, k3]))
          replace hm := hm.perm (M := ((sb, .cells #[.int .i64 kd, .int .i64 id, .int .i64 x] 30 (0, 0)) :: R) ++ B) (perm_of fun x => by simp only [cnt_append, cnt_cons]; omega)
          obtain ⟨np, nq, nb, n1, n2⟩ := both_next tb rb now l
          refine (n1.use hT hm).mono ?_
          clear hm hT
          rintro e w8 ⟨rfl, B1, hT, hm⟩
          go_wp2_with ((first | refine wpList_skip (by rfl) ?_ | (refine wlL (hm := hm) (hu := by first | exact undStp) (hi := by (try simp only [rowOf_size]); first | exact sizeStp) (h := ?_); (try simp only [Act.put, k1, k2, k3]); (try simp only [List.nil_append])) | refine wlLC (hm := hm) (hu := by first | exact undInt | exact undRSl) (h := ?_) | (refine wlS (hm := hm) (hv := (by first | rfl | exact idV_eq _ | exact labV_eq _ _ | exact rectV_eq _ _ _ _)) (hi := by (try simp only [rowOf_size]); first | exact sizeStp) (hs := by first | (simp only [rowOf_size]; done) | rfl) (h := ?_); clear hm; intro w1 hm; (try simp only [rowOf_set, k1, k2, k3, Value.cells, Act.eval, k7, k8, k9, kA, Option.getD_some] at hm)) | (refine wlSC (hm := hm) (hi := by first | exact sizeInt | exact sizeRSl) (ho := by first | decide | (simp only [rowOf_size]; omega) | (simp; done)) (h := ?_); clear hm; intro w1 hm; (try simp only [rowOf_set, k1, k2, k3, Value.cells, Act.eval, k7, k8, k9, kA, Option.getD_some] at hm)) | (refine wlA (hz := by first | exact zeroStp) (hm := hm) (h := ?_); clear hm; intro b1 w1 hm; (try simp only [rowOf_set, k1, k2, k3, Value.cells, Act.eval, k7, k8, k9, kA, Option.getD_some] at hm)) | (refine wl_box (by rfl) rfl (by first | exact idV_cells _ | exact labV_cells _ _ | exact rectV_cells _ _ _ _ | rfl) hm ?_; clear hm; intro b1 w1 hm) | (refine wl_build (by rfl) (built_rt) rfl ?_; (try simp only [Act.put, k1, k2, k3]); (try simp only [List.nil_append])) | (go_at_call 19; refine (timed_c _).mono ?_; rintro e w1 ⟨rfl, hx⟩; replace hm := hm.call hx; clear hx) | (with_reducible first | refine stBs ?_ | refine stMs ?_ | refine stAp ?_ | refine stCo ?_)); (try simp only [k4, k5, k6, Act.put, k1, k2, k3]))
          replace hm := hm.perm (M := ((sb, .cells #[.int .i64 kd, .int .i64 id, .int .i64 x] 30 (0, 0)) :: B1) ++ R) (perm_of fun x => by simp only [cnt_append, cnt_cons]; omega)
          refine (n2.use hU hm).mono ?_
          clear hm hU n1 n2
          rintro e w9 ⟨rfl, R1, hU, hm⟩
          go_wp2_with ((first | refine wpList_skip (by rfl) ?_ | (refine wlL (hm := hm) (hu := by first | exact undStp) (hi := by (try simp only [rowOf_size]); first | exact sizeStp) (h := ?_); (try simp only [Act.put, k1, k2, k3]); (try simp only [List.nil_append])) | refine wlLC (hm := hm) (hu := by first | exact undInt | exact undRSl) (h := ?_) | (refine wlS (hm := hm) (hv := (by first | rfl | exact idV_eq _ | exact labV_eq _ _ | exact rectV_eq _ _ _ _)) (hi := by (try simp only [rowOf_size]); first | exact sizeStp) (hs := by first | (simp only [rowOf_size]; done) | rfl) (h := ?_); clear hm; intro w1 hm; (try simp only [rowOf_set, k1, k2, k3, Value.cells, Act.eval, k7, k8, k9, kA, Option.getD_some] at hm)) | (refine wlSC (hm := hm) (hi := by first | exact sizeInt | exact sizeRSl) (ho := by first | decide | (simp only [rowOf_size]; omega) | (simp; done)) (h := ?_); clear hm; intro w1 hm; (try simp only [rowOf_set, k1, k2, k3, Value.cells, Act.eval, k7, k8, k9, kA, Option.getD_some] at hm)) | (refine wlA (hz := by first | exact zeroStp) (hm := hm) (h := ?_); clear hm; intro b1 w1 hm; (try simp only [rowOf_set, k1, k2, k3, Value.cells, Act.eval, k7, k8, k9, kA, Option.getD_some] at hm)) | (refine wl_box (by rfl) rfl (by first | exact idV_cells _ | exact labV_cells _ _ | exact rectV_cells _ _ _ _ | rfl) hm ?_; clear hm; intro b1 w1 hm) | (refine wl_build (by rfl) (built_rt) rfl ?_; (try simp only [Act.put, k1, k2, k3]); (try simp only [List.nil_append])) | (go_at_call 19; refine (timed_c _).mono ?_; rintro e w1 ⟨rfl, hx⟩; replace hm := hm.call hx; clear hx) | (with_reducible first | refine stBs ?_ | refine stMs ?_ | refine stAp ?_ | refine stCo ?_)); (try simp only [k4, k5, k6, Act.put, k1, k2, k3]))
          have hU0 := hU
          obtain ⟨sv, S, hS, hl, rfl⟩ := hU0
          obtain ⟨c', cap', rfl⟩ := hS.len
          replace hm : Mem w [] ((sb, .cells #[.int .i64 kd, .int .i64 id, .int .i64 x] 30 (0, 0)) :: (B1 ++ ((rb, .cells #[.slice c' l.length cap', .int .i64 now] 28 (0, 0)) :: S))) w9 := hm
          replace hm := hm.tail.perm (M := (rb, .cells #[.slice c' l.length cap', .int .i64 now] 28 (0, 0)) :: (S ++ B1)) (perm_of fun x => by simp only [cnt_append, cnt_cons]; omega)
          have d1 : (np != np) = false := by simp
          have d2 : (nq != nq) = false := by simp
          have d3 : (nb != nb) = false := by simp
          have d4 : (now != now) = false := by simp
          have d5 : ((l.length : Int) != (l.length : Int)) = false := by simp
          have d6 : (l.length != l.length) = false := by simp
          refine wp_quiet_mem (by kernel_rfl) (by kernel_rfl) hm ?_
          repeat ((first | refine wq_skip (by rfl) ?_ | (refine wqL (hu := by first | exact undStp) (hi := by (try simp only [rowOf_size]); first | exact sizeStp) (h := ?_); (try simp only [Act.put, k1, k2, k3]); (try simp only [List.nil_append])) | refine wqLC (hu := by first | exact undInt | exact undRSl) (h := ?_) | ((with_reducible show wpQuiet _ _ _ _ (⟨_, .call _, _, _, _, _⟩ :: _) _); refine wq_ask (by rfl) ?_; apply Exists.intro; refine ⟨?_, ?_⟩; (focus (intro w hC; go_simp; first | (go_at_call 17; exact now_q hT (A := (rb, _) :: S) hC) | (go_at_call 18; exact size_q hT (A := (rb, _) :: S) hC)))) | (refine wq_build (by rfl) (built_rt) rfl ?_; (try simp only [Act.put, k1, k2, k3]); (try simp only [List.nil_append])) | refine wqS (h := ?_)); (try simp only [k4, k5, k6, Act.put, k1, k2, k3]))
          refine wpQuiet_nil ?_; clear hm; intro w10 hm
          go_wp2_with ((first | refine wpList_skip (by rfl) ?_ | (refine wlL (hm := hm) (hu := by first | exact undStp) (hi := by (try simp only [rowOf_size]); first | exact sizeStp) (h := ?_); (try simp only [Act.put, k1, k2, k3]); (try simp only [List.nil_append])) | refine wlLC (hm := hm) (hu := by first | exact undInt | exact undRSl) (h := ?_) | (refine wlS (hm := hm) (hv := (by first | rfl | exact idV_eq _ | exact labV_eq _ _ | exact rectV_eq _ _ _ _)) (hi := by (try simp only [rowOf_size]); first | exact sizeStp) (hs := by first | (simp only [rowOf_size]; done) | rfl) (h := ?_); clear hm; intro w1 hm; (try simp only [rowOf_set, k1, k2, k3, Value.cells, Act.eval, k7, k8, k9, kA, Option.getD_some] at hm)) | (refine wlSC (hm := hm) (hi := by first | exact sizeInt | exact sizeRSl) (ho := by first | decide | (simp only [rowOf_size]; omega) | (simp; done)) (h := ?_); clear hm; intro w1 hm; (try simp only [rowOf_set, k1, k2, k3, Value.cells, Act.eval, k7, k8, k9, kA, Option.getD_some] at hm)) | (refine wlA (hz := by first | exact zeroStp) (hm := hm) (h := ?_); clear hm; intro b1 w1 hm; (try simp only [rowOf_set, k1, k2, k3, Value.cells, Act.eval, k7, k8, k9, kA, Option.getD_some] at hm)) | (refine wl_box (by rfl) rfl (by first | exact idV_cells _ | exact labV_cells _ _ | exact rectV_cells _ _ _ _ | rfl) hm ?_; clear hm; intro b1 w1 hm) | (refine wl_build (by rfl) (built_rt) rfl ?_; (try simp only [Act.put, k1, k2, k3]); (try simp only [List.nil_append])) | (go_at_call 19; refine (timed_c _).mono ?_; rintro e w1 ⟨rfl, hx⟩; replace hm := hm.call hx; clear hx) | (with_reducible first | refine stBs ?_ | refine stMs ?_ | refine stAp ?_ | refine stCo ?_)); (try simp only [k4, k5, k6, Act.put, k1, k2, k3]))
          go_roundw
          case rel => exact ⟨i + 1, l, now, B1, _, by omega, by go_num, hT, hU, hm⟩
          case measure => (simp [intOf]; try omega)
        · have d1' : (kd == 1) = false := by simp [k1']
          clear k1'
          by_cases k2' : kd = 2
          · have d2' : (kd == 2) = true := by simp [k2']
            clear k2'
            by_cases hxt : x < now
            · go_wp2_with ((first | refine wpList_skip (by rfl) ?_ | (refine wlL (hm := hm) (hu := by first | exact undStp) (hi := by (try simp only [rowOf_size]); first | exact sizeStp) (h := ?_); (try simp only [Act.put, k1, k2, k3]); (try simp only [List.nil_append])) | refine wlLC (hm := hm) (hu := by first | exact undInt | exact undRSl) (h := ?_) | (refine wlS (hm := hm) (hv := (by first | rfl | exact idV_eq _ | exact labV_eq _ _ | exact rectV_eq _ _ _ _)) (hi := by (try simp only [rowOf_size]); first | exact sizeStp) (hs := by first | (simp only [rowOf_size]; done) | rfl) (h := ?_); clear hm; intro w1 hm; (try simp only [rowOf_set, k1, k2, k3, Value.cells, Act.eval, k7, k8, k9, kA, Option.getD_some] at hm)) | (refine wlSC (hm := hm) (hi := by first | exact sizeInt | exact sizeRSl) (ho := by first | decide | (simp only [rowOf_size]; omega) | (simp; done)) (h := ?_); clear hm; intro w1 hm; (try simp only [rowOf_set, k1, k2, k3, Value.cells, Act.eval, k7, k8, k9, kA, Option.getD_some] at hm)) | (refine wlA (hz := by first | exact zeroStp) (hm := hm) (h := ?_); clear hm; intro b1 w1 hm; (try simp only [rowOf_set, k1, k2, k3, Value.cells, Act.eval, k7, k8, k9, kA, Option.getD_some] at hm)) | (refine wl_box (by rfl) rfl (by first | exact idV_cells _ | exact labV_cells _ _ | exact rectV_cells _ _ _ _ | rfl) hm ?_; clear hm; intro b1 w1 hm) | (refine wl_build (by rfl) (built_rt) rfl ?_; (try simp only [Act.put, k1, k2, k3]); (try simp only [List.nil_append])) | (go_at_call 19; refine (timed_c _).mono ?_; rintro e w1 ⟨rfl, hx⟩; replace hm := hm.call hx; clear hx) | (with_reducible first | refine stBs ?_ | refine stMs ?_ | refine stAp ?_ | refine stCo ?_)); (try simp only [k4, k5, k6, Act.put, k1, k2, k3]))
              replace hm := hm.perm (M := ((sb, .cells #[.int .i64 kd, .int .i64 id, .int .i64 x] 30 (0, 0)) :: R) ++ B) (perm_of fun x => by simp only [cnt_append, cnt_cons]; omega)
              refine ((tick_arg tb now x l hxt).use hT hm).mono ?_
              clear hm hT
              rintro e w6 ⟨rfl, B2, hT, hm'⟩
              have hm : Mem w [] ((sb, .cells #[.int .i64 kd, .int .i64 id, .int .i64 x] 30 (0, 0)) :: (R ++ B2)) w6 := hm'
              clear hm'
              go_wp2_with ((first | refine wpList_skip (by rfl) ?_ | (refine wlL (hm := hm) (hu := by first | exact undStp) (hi := by (try simp only [rowOf_size]); first | exact sizeStp) (h := ?_); (try simp only [Act.put, k1, k2, k3]); (try simp only [List.nil_append])) | refine wlLC (hm := hm) (hu := by first | exact undInt | exact undRSl) (h := ?_) | (refine wlS (hm := hm) (hv := (by first | rfl | exact idV_eq _ | exact labV_eq _ _ | exact rectV_eq _ _ _ _)) (hi := by (try simp only [rowOf_size]); first | exact sizeStp) (hs := by first | (simp only [rowOf_size]; done) | rfl) (h := ?_); clear hm; intro w1 hm; (try simp only [rowOf_set, k1, k2, k3, Value.cells, Act.eval, k7, k8, k9, kA, Option.getD_some] at hm)) | (refine wlSC (hm := hm) (hi := by first | exact sizeInt | exact sizeRSl) (ho := by first | decide | (simp only [rowOf_size]; omega) | (simp; done)) (h := ?_); clear hm; intro w1 hm; (try simp only [rowOf_set, k1, k2, k3, Value.cells, Act.eval, k7, k8, k9, kA, Option.getD_some] at hm)) | (refine wlA (hz := by first | exact zeroStp) (hm := hm) (h := ?_); clear hm; intro b1 w1 hm; (try simp only [rowOf_set, k1, k2, k3, Value.cells, Act.eval, k7, k8, k9, kA, Option.getD_some] at hm)) | (refine wl_box (by rfl) rfl (by first | exact idV_cells _ | exact labV_cells _ _ | exact rectV_cells _ _ _ _ | rfl) hm ?_; clear hm; intro b1 w1 hm) | (refine wl_build (by rfl) (built_rt) rfl ?_; (try simp only [Act.put, k1, k2, k3]); (try simp only [List.nil_append])) | (go_at_call 19; refine (timed_c _).mono ?_; rintro e w1 ⟨rfl, hx⟩; replace hm := hm.call hx; clear hx) | (with_reducible first | refine stBs ?_ | refine stMs ?_ | refine stAp ?_ | refine stCo ?_)); (try simp only [k4, k5, k6, Act.put, k1, k2, k3]))
              replace hm := hm.perm (M := ((sb, .cells #[.int .i64 kd, .int .i64 id, .int .i64 x] 30 (0, 0)) :: B2) ++ R) (perm_of fun x => by simp only [cnt_append, cnt_cons]; omega)
              refine ((ref_tick_arg rb now x l hxt).use hU hm).mono ?_
              clear hm hU
              rintro e w7 ⟨rfl, R2, hU, hm⟩
              go_wp2_with ((first | refine wpList_skip (by rfl) ?_ | (refine wlL (hm := hm) (hu := by first | exact undStp) (hi := by (try simp only [rowOf_size]); first | exact sizeStp) (h := ?_); (try simp only [Act.put, k1, k2, k3]); (try simp only [List.nil_append])) | refine wlLC (hm := hm) (hu := by first | exact undInt | exact undRSl) (h := ?_) | (refine wlS (hm := hm) (hv := (by first | rfl | exact idV_eq _ | exact labV_eq _ _ | exact rectV_eq _ _ _ _)) (hi := by (try simp only [rowOf_size]); first | exact sizeStp) (hs := by first | (simp only [rowOf_size]; done) | rfl) (h := ?_); clear hm; intro w1 hm; (try simp only [rowOf_set, k1, k2, k3, Value.cells, Act.eval, k7, k8, k9, kA, Option.getD_some] at hm)) | (refine wlSC (hm := hm) (hi := by first | exact sizeInt | exact sizeRSl) (ho := by first | decide | (simp only [rowOf_size]; omega) | (simp; done)) (h := ?_); clear hm; intro w1 hm; (try simp only [rowOf_set, k1, k2, k3, Value.cells, Act.eval, k7, k8, k9, kA, Option.getD_some] at hm)) | (refine wlA (hz := by first | exact zeroStp) (hm := hm) (h := ?_); clear hm; intro b1 w1 hm; (try simp only [rowOf_set, k1, k2, k3, Value.cells, Act.eval, k7, k8, k9, kA, Option.getD_some] at hm)) | (refine wl_box (by rfl) rfl (by first | exact idV_cells _ | exact labV_cells _ _ | exact rectV_cells _ _ _ _ | rfl) hm ?_; clear hm; intro b1 w1 hm) | (refine wl_build (by rfl) (built_rt) rfl ?_; (try simp only [Act.put, k1, k2, k3]); (try simp only [List.nil_append])) | (go_at_call 19; refine (timed_c _).mono ?_; rintro e w1 ⟨rfl, hx⟩; replace hm := hm.call hx; clear hx) | (with_reducible first | refine stBs ?_ | refine stMs ?_ | refine stAp ?_ | refine stCo ?_)); (try simp only [k4, k5, k6, Act.put, k1, k2, k3]))
              refine (ints_c none 0 0 (fun _ => 0) none 0 0 (fun _ => 0) (by decide) _ (fun i hi => by omega) (fun i hi => by omega)).mono ?_
              rintro e w5 ⟨rfl, hx⟩
              replace hm := hm.call hx
              clear hx
              rw [sameInts_all (fun i _ => rfl)]
              generalize R2 = R at hm hU
              generalize B2 = B at hm hT
              go_wp2_with ((first | refine wpList_skip (by rfl) ?_ | (refine wlL (hm := hm) (hu := by first | exact undStp) (hi := by (try simp only [rowOf_size]); first | exact sizeStp) (h := ?_); (try simp only [Act.put, k1, k2, k3]); (try simp only [List.nil_append])) | refine wlLC (hm := hm) (hu := by first | exact undInt | exact undRSl) (h := ?_) | (refine wlS (hm := hm) (hv := (by first | rfl | exact idV_eq _ | exact labV_eq _ _ | exact rectV_eq _ _ _ _)) (hi := by (try simp only [rowOf_size]); first | exact sizeStp) (hs := by first | (simp only [rowOf_size]; done) | rfl) (h := ?_); clear hm; intro w1 hm; (try simp only [rowOf_set, k1, k2, k3, Value.cells, Act.eval, k7, k8, k9, kA, Option.getD_some] at hm)) | (refine wlSC (hm := hm) (hi := by first | exact sizeInt | exact sizeRSl) (ho := by first | decide | (simp only [rowOf_size]; omega) | (simp; done)) (h := ?_); clear hm; intro w1 hm; (try simp only [rowOf_set, k1, k2, k3, Value.cells, Act.eval, k7, k8, k9, kA, Option.getD_some] at hm)) | (refine wlA (hz := by first | exact zeroStp) (hm := hm) (h := ?_); clear hm; intro b1 w1 hm; (try simp only [rowOf_set, k1, k2, k3, Value.cells, Act.eval, k7, k8, k9, kA, Option.getD_some] at hm)) | (refine wl_box (by rfl) rfl (by first | exact idV_cells _ | exact labV_cells _ _ | exact rectV_cells _ _ _ _ | rfl) hm ?_; clear hm; intro b1 w1 hm) | (refine wl_build (by rfl) (built_rt) rfl ?_; (try simp only [Act.put, k1, k2, k3]); (try simp only [List.nil_append])) | (go_at_call 19; refine (timed_c _).mono ?_; rintro e w1 ⟨rfl, hx⟩; replace hm := hm.call hx; clear hx) | (with_reducible first | refine stBs ?_ | refine stMs ?_ | refine stAp ?_ | refine stCo ?_)); (try simp only [k4, k5, k6, Act.put, k1, k2, k3]))
              replace hm := hm.perm (M := ((sb, .cells #[.int .i64 kd, .int .i64 id, .int .i64 x] 30 (0, 0)) :: R) ++ B) (perm_of fun x => by simp only [cnt_append, cnt_cons]; omega)
              obtain ⟨np, nq, nb, n1, n2⟩ := both_next tb rb now l
              refine (n1.use hT hm).mono ?_
              clear hm hT
              rintro e w8 ⟨rfl, B1, hT, hm⟩
              go_wp2_with ((first | refine wpList_skip (by rfl) ?_ | (refine wlL (hm := hm) (hu := by first | exact undStp) (hi := by (try simp only [rowOf_size]); first | exact sizeStp) (h := ?_); (try simp only [Act.put, k1, k2, k3]); (try simp only [List.nil_append])) | refine wlLC (hm := hm) (hu := by first | exact undInt | exact undRSl) (h := ?_) | (refine wlS (hm := hm) (hv := (by first | rfl | exact idV_eq _ | exact labV_eq _ _ | exact rectV_eq _ _ _ _)) (hi := by (try simp only [rowOf_size]); first | exact sizeStp) (hs := by first | (simp only [rowOf_size]; done) | rfl) (h := ?_); clear hm; intro w1 hm; (try simp only [rowOf_set, k1, k2, k3, Value.cells, Act.eval, k7, k8, k9, kA, Option.getD_some] at hm)) | (refine wlSC (hm := hm) (hi := by first | exact sizeInt | exact sizeRSl) (ho := by first | decide | (simp only [rowOf_size]; omega) | (simp; done)) (h := ?_); clear hm; intro w1 hm; (try simp only [rowOf_set, k1, k2, k3, Value.cells, Act.eval, k7, k8, k9, kA, Option.getD_some] at hm)) | (refine wlA (hz := by first | exact zeroStp) (hm := hm) (h := ?_); clear hm; intro b1 w1 hm; (try simp only [rowOf_set, k1, k2, k3, Value.cells, Act.eval, k7, k8, k9, kA, Option.getD_some] at hm)) | (refine wl_box (by rfl) rfl (by first | exact idV_cells _ | exact labV_cells _ _ | exact rectV_cells _ _ _ _ | rfl) hm ?_; clear hm; intro b1 w1 hm) | (refine wl_build (by rfl) (built_rt) rfl ?_; (try simp only [Act.put, k1, k2, k3]); (try simp only [List.nil_append])) | (go_at_call 19; refine (timed_c _).mono ?_; rintro e w1 ⟨rfl, hx⟩; replace hm := hm.call hx; clear hx) | (with_reducible first | refine stBs ?_ | refine stMs ?_ | refine stAp ?_ | refine stCo ?_)); (try simp only [k4, k5, k6, Act.put, k1, k2, k3]))
              replace hm := hm.perm (M := ((sb, .cells #[.int .i64 kd, .int .i64 id, .int .i64 x] 30 (0, 0)) :: B1) ++ R) (perm_of fun x => by simp only [cnt_append, cnt_cons]; omega)
              refine (n2.use hU hm).mono ?_
              clear hm hU n1 n2
              rintro e w9 ⟨rfl, R1, hU, hm⟩
              go_wp2_with ((first | refine wpList_skip (by rfl) ?_ | (refine wlL (hm := hm) (hu := by first | exact undStp) (hi := by (try simp only [rowOf_size]); first | exact sizeStp) (h := ?_); (try simp only [Act.put, k1, k2, k3]); (try simp only [List.nil_append])) | refine wlLC (hm := hm) (hu := by first | exact undInt | exact undRSl) (h := ?_) | (refine wlS (hm := hm) (hv := (by first | rfl | exact idV_eq _ | exact labV_eq _ _ | exact rectV_eq _ _ _ _)) (hi := by (try simp only [rowOf_size]); first | exact sizeStp) (hs := by first | (simp only [rowOf_size]; done) | rfl) (h := ?_); clear hm; intro w1 hm; (try simp only [rowOf_set, k1, k2, k3, Value.cells, Act.eval, k7, k8, k9, kA, Option.getD_some] at hm)) | (refine wlSC (hm := hm) (hi := by first | exact sizeInt | exact sizeRSl) (ho := by first | decide | (simp only [rowOf_size]; omega) | (simp; done)) (h := ?_); clear hm; intro w1 hm; (try simp only [rowOf_set, k1, k2, k3, Value.cells, Act.eval, k7, k8, k9, kA, Option.getD_some] at hm)) | (refine wlA (hz := by first | exact zeroStp) (hm := hm) (h := ?_); clear hm; intro b1 w1 hm; (try simp only [rowOf_set, k1, k2, k3, Value.cells, Act.eval, k7, k8, k9, kA, Option.getD_some] at hm)) | (refine wl_box (by rfl) rfl (by first | exact idV_cells _ | exact labV_cells _ _ | exact rectV_cells _ _ _ _ | rfl) hm ?_; clear hm; intro b1 w1 hm) | (refine wl_build (by rfl) (built_rt) rfl ?_; (try simp only [Act.put, k1, k2, k3]); (try simp only [List.nil_append])) | (go_at_call 19; refine (timed_c _).mono ?_; rintro e w1 ⟨rfl, hx⟩; replace hm := hm.call hx; clear hx) | (with_reducible first | refine stBs ?_ | refine stMs ?_ | refine stAp ?_ | refine stCo ?_)); (try simp only [k4, k5, k6, Act.put, k1, k2, k3]))
              have hU0 := hU
              obtain ⟨sv, S, hS, hl, rfl⟩ := hU0
              obtain ⟨c', cap', rfl⟩ := hS.len
              replace hm : Mem w [] ((sb, .cells #[.int .i64 kd, .int .i64 id, .int .i64 x] 30 (0, 0)) :: (B1 ++ ((rb, .cells #[.slice c' l.length cap', .int .i64 now] 28 (0, 0)) :: S))) w9 := hm
              replace hm := hm.tail.perm (M := (rb, .cells #[.slice c' l.length cap', .int .i64 now] 28 (0, 0)) :: (S ++ B1)) (perm_of fun x => by simp only [cnt_append, cnt_cons]; omega)
              have d1 : (np != np) = false := by simp
              have d2 : (nq != nq) = false := by simp
              have d3 : (nb != nb) = false := by simp
              have d4 : (now != now) = false := by simp
              have d5 : ((l.length : Int) != (l.length : Int)) = false := by simp
              have d6 : (l.length != l.length) = false := by simp
              refine wp_quiet_mem (by kernel_rfl) (by kernel_rfl) hm ?_
              repeat ((first | refine wq_skip (by rfl) ?_ | (refine wqL (hu := by first | exact undStp) (hi := by (try simp only [rowOf_size]); first | exact sizeStp) (h := ?_); (try simp only [Act.put, k1, k2, k3]); (try simp only [List.nil_append])) | refine wqLC (hu := by first | exact undInt | exact undRSl) (h := ?_) | ((with_reducible show wpQuiet _ _ _ _ (⟨_, .call _, _, _, _, _⟩ :: _) _); refine wq_ask (by rfl) ?_; apply Exists.intro; refine ⟨?_, ?_⟩; (focus (intro w hC; go_simp; first | (go_at_call 17; exact now_q hT (A := (rb, _) :: S) hC) | (go_at_call 18; exact size_q hT (A := (rb, _) :: S) hC)))) | (refine wq_build (by rfl) (built_rt) rfl ?_; (try simp only [Act.put, k1, k2, k3]); (try simp only [List.nil_append])) | refine wqS (h := ?_)); (try simp only [k4, k5, k6, Act.put, k1, k2, k3]))
              refine wpQuiet_nil ?_; clear hm; intro w10 hm
              go_wp2_with ((first | refine wpList_skip (by rfl) ?_ | (refine wlL (hm := hm) (hu := by first | exact undStp) (hi := by (try simp only [rowOf_size]); first | exact sizeStp) (h := ?_); (try simp only [Act.put, k1, k2, k3]); (try simp only [List.nil_append])) | refine wlLC (hm := hm) (hu := by first | exact undInt | exact undRSl) (h := ?_) | (refine wlS (hm := hm) (hv := (by first | rfl | exact idV_eq _ | exact labV_eq _ _ | exact rectV_eq _ _ _ _)) (hi := by (try simp only [rowOf_size]); first | exact sizeStp) (hs := by first | (simp only [rowOf_size]; done) | rfl) (h := ?_); clear hm; intro w1 hm; (try simp only [rowOf_set, k1, k2, k3, Value.cells, Act.eval, k7, k8, k9, kA, Option.getD_some] at hm)) | (refine wlSC (hm := hm) (hi := by first | exact sizeInt | exact sizeRSl) (ho := by first | decide | (simp only [rowOf_size]; omega) | (simp; done)) (h := ?_); clear hm; intro w1 hm; (try simp only [rowOf_set, k1, k2, k3, Value.cells, Act.eval, k7, k8, k9, kA, Option.getD_some] at hm)) | (refine wlA (hz := by first | exact zeroStp) (hm := hm) (h := ?_); clear hm; intro b1 w1 hm; (try simp only [rowOf_set, k1, k2, k3, Value.cells, Act.eval, k7, k8, k9, kA, Option.getD_some] at hm)) | (refine wl_box (by rfl) rfl (by first | exact idV_cells _ | exact labV_cells _ _ | exact rectV_cells _ _ _ _ | rfl) hm ?_; clear hm; intro b1 w1 hm) | (refine wl_build (by rfl) (built_rt) rfl ?_; (try simp only [Act.put, k1, k2, k3]); (try simp only [List.nil_append])) | (go_at_call 19; refine (timed_c _).mono ?_; rintro e w1 ⟨rfl, hx⟩; replace hm := hm.call hx; clear hx) | (with_reducible first | refine stBs ?_ | refine stMs ?_ | refine stAp ?_ | refine stCo ?_)); (try simp only [k4, k5, k6, Act.put, k1, k2, k3]))
              go_roundw
              case rel => exact ⟨i + 1, l, now, B1, _, by omega, by go_num, hT, hU, hm⟩
              case measure => (simp [intOf]; try omega)
            · obtain ⟨o, l2, hK⟩ := ticks_ex x _ l (Nat.le_refl _)
              have holen : o.length ≤ 1000 := Nat.le_trans hK.length hT.most
              go_wp2_with ((first | refine wpList_skip (by rfl) ?_ | (refine wlL (hm := hm) (hu := by first | exact undStp) (hi := by (try simp only [rowOf_size]); first | exact sizeStp) (h := ?_); (try simp only [Act.put, k1, k2, k3]); (try simp only [List.nil_append])) | refine wlLC (hm := hm) (hu := by first | exact undInt | exact undRSl) (h := ?_) | (refine wlS (hm := hm) (hv := (by first | rfl | exact idV_eq _ | exact labV_eq _ _ | exact rectV_eq _ _ _ _)) (hi := by (try simp only [rowOf_size]); first | exact sizeStp) (hs := by first | (simp only [rowOf_size]; done) | rfl) (h := ?_); clear hm; intro w1 hm; (try simp only [rowOf_set, k1, k2, k3, Value.cells, Act.eval, k7, k8, k9, kA, Option.getD_some] at hm)) | (refine wlSC (hm := hm) (hi := by first | exact sizeInt | exact sizeRSl) (ho := by first | decide | (simp only [rowOf_size]; omega) | (simp; done)) (h := ?_); clear hm; intro w1 hm; (try simp only [rowOf_set, k1, k2, k3, Value.cells, Act.eval, k7, k8, k9, kA, Option.getD_some] at hm)) | (refine wlA (hz := by first | exact zeroStp) (hm := hm) (h := ?_); clear hm; intro b1 w1 hm; (try simp only [rowOf_set, k1, k2, k3, Value.cells, Act.eval, k7, k8, k9, kA, Option.getD_some] at hm)) | (refine wl_box (by rfl) rfl (by first | exact idV_cells _ | exact labV_cells _ _ | exact rectV_cells _ _ _ _ | rfl) hm ?_; clear hm; intro b1 w1 hm) | (refine wl_build (by rfl) (built_rt) rfl ?_; (try simp only [Act.put, k1, k2, k3]); (try simp only [List.nil_append])) | (go_at_call 19; refine (timed_c _).mono ?_; rintro e w1 ⟨rfl, hx⟩; replace hm := hm.call hx; clear hx) | (with_reducible first | refine stBs ?_ | refine stMs ?_ | refine stAp ?_ | refine stCo ?_)); (try simp only [k4, k5, k6, Act.put, k1, k2, k3]))
              replace hm := hm.perm (M := ((sb, .cells #[.int .i64 kd, .int .i64 id, .int .i64 x] 30 (0, 0)) :: R) ++ B) (perm_of fun x => by simp only [cnt_append, cnt_cons]; omega)
              refine (tick_c tb now x l o l2 (by omega) hK _ _ hT hm.right.self).mono ?_
              rintro e w6 hx
              obtain ⟨s1, S1, B2, rfl, hS1, hT2, hx⟩ := hx.out
              replace hm : Mem w [] ((sb, .cells #[.int .i64 kd, .int .i64 id, .int .i64 x] 30 (0, 0)) :: (R ++ (S1 ++ B2))) w6 := hm.callBehind hx
              clear hx hT
              go_wp2_with ((first | refine wpList_skip (by rfl) ?_ | (refine wlL (hm := hm) (hu := by first | exact undStp) (hi := by (try simp only [rowOf_size]); first | exact sizeStp) (h := ?_); (try simp only [Act.put, k1, k2, k3]); (try simp only [List.nil_append])) | refine wlLC (hm := hm) (hu := by first | exact undInt | exact undRSl) (h := ?_) | (refine wlS (hm := hm) (hv := (by first | rfl | exact idV_eq _ | exact labV_eq _ _ | exact rectV_eq _ _ _ _)) (hi := by (try simp only [rowOf_size]); first | exact sizeStp) (hs := by first | (simp only [rowOf_size]; done) | rfl) (h := ?_); clear hm; intro w1 hm; (try simp only [rowOf_set, k1, k2, k3, Value.cells, Act.eval, k7, k8, k9, kA, Option.getD_some] at hm)) | (refine wlSC (hm := hm) (hi := by first | exact sizeInt | exact sizeRSl) (ho := by first | decide | (simp only [rowOf_size]; omega) | (simp; done)) (h := ?_); clear hm; intro w1 hm; (try simp only [rowOf_set, k1, k2, k3, Value.cells, Act.eval, k7, k8, k9, kA, Option.getD_some] at hm)) | (refine wlA (hz := by first | exact zeroStp) (hm := hm) (h := ?_); clear hm; intro b1 w1 hm; (try simp only [rowOf_set, k1, k2, k3, Value.cells, Act.eval, k7, k8, k9, kA, Option.getD_some] at hm)) | (refine wl_box (by rfl) rfl (by first | exact idV_cells _ | exact labV_cells _ _ | exact rectV_cells _ _ _ _ | rfl) hm ?_; clear hm; intro b1 w1 hm) | (refine wl_build (by rfl) (built_rt) rfl ?_; (try simp only [Act.put, k1, k2, k3]); (try simp only [List.nil_append])) | (go_at_call 19; refine (timed_c _).mono ?_; rintro e w1 ⟨rfl, hx⟩; replace hm := hm.call hx; clear hx) | (with_reducible first | refine stBs ?_ | refine stMs ?_ | refine stAp ?_ | refine stCo ?_)); (try simp only [k4, k5, k6, Act.put, k1, k2, k3]))
              replace hm := hm.perm (M := ((sb, .cells #[.int .i64 kd, .int .i64 id, .int .i64 x] 30 (0, 0)) :: (S1 ++ B2)) ++ R) (perm_of fun x => by simp only [cnt_append, cnt_cons]; omega)
              refine (ref_tick rb now x l o l2 (by omega) hK _ _ hU hm.right.self).mono ?_
              rintro e w7 hx
              obtain ⟨s2, S2, R2, rfl, hS2, hU2, hx⟩ := hx.out
              replace hm := hm.callBehind hx
              clear hx hU
              obtain ⟨ca, capa, rfl, hv1⟩ := hS1.view
              obtain ⟨cb, capb, rfl, hv2⟩ := hS2.view
              have hv1' := hv1 (hm.perm (M := S1 ++ ((sb, .cells #[.int .i64 kd, .int .i64 id, .int .i64 x] 30 (0, 0)) :: (B2 ++ (S2 ++ R2)))) (perm_of fun x => by simp only [cnt_append, cnt_cons]; omega))
              have hv2' := hv2 (hm.perm (M := S2 ++ ((sb, .cells #[.int .i64 kd, .int .i64 id, .int .i64 x] 30 (0, 0)) :: (B2 ++ (S1 ++ R2)))) (perm_of fun x => by simp only [cnt_append, cnt_cons]; omega))
              go_wp2_with ((first | refine wpList_skip (by rfl) ?_ | (refine wlL (hm := hm) (hu := by first | exact undStp) (hi := by (try simp only [rowOf_size]); first | exact sizeStp) (h := ?_); (try simp only [Act.put, k1, k2, k3]); (try simp only [List.nil_append])) | refine wlLC (hm := hm) (hu := by first | exact undInt | exact undRSl) (h := ?_) | (refine wlS (hm := hm) (hv := (by first | rfl | exact idV_eq _ | exact labV_eq _ _ | exact rectV_eq _ _ _ _)) (hi := by (try simp only [rowOf_size]); first | exact sizeStp) (hs := by first | (simp only [rowOf_size]; done) | rfl) (h := ?_); clear hm; intro w1 hm; (try simp only [rowOf_set, k1, k2, k3, Value.cells, Act.eval, k7, k8, k9, kA, Option.getD_some] at hm)) | (refine wlSC (hm := hm) (hi := by first | exact sizeInt | exact sizeRSl) (ho := by first | decide | (simp only [rowOf_size]; omega) | (simp; done)) (h := ?_); clear hm; intro w1 hm; (try simp only [rowOf_set, k1, k2, k3, Value.cells, Act.eval, k7, k8, k9, kA, Option.getD_some] at hm)) | (refine wlA (hz := by first | exact zeroStp) (hm := hm) (h := ?_); clear hm; intro b1 w1 hm; (try simp only [rowOf_set, k1, k2, k3, Value.cells, Act.eval, k7, k8, k9, kA, Option.getD_some] at hm)) | (refine wl_box (by rfl) rfl (by first | exact idV_cells _ | exact labV_cells _ _ | exact rectV_cells _ _ _ _ | rfl) hm ?_; clear hm; intro b1 w1 hm) | (refine wl_build (by rfl) (built_rt) rfl ?_; (try simp only [Act.put, k1, k2, k3]); (try simp only [List.nil_append])) | (go_at_call 19; refine (timed_c _).mono ?_; rintro e w1 ⟨rfl, hx⟩; replace hm := hm.call hx; clear hx) | (with_reducible first | refine stBs ?_ | refine stMs ?_ | refine stAp ?_ | refine stCo ?_)); (try simp only [k4, k5, k6, Act.put, k1, k2, k3]))
              refine (ints_c ca o.length capa _ cb o.length capb _ (by omega) _ hv1' hv2').mono ?_
              rintro e w5 ⟨rfl, hx⟩
              replace hm := hm.call hx
              clear hx hv1 hv2 hv1' hv2' hS1 hS2
              rw [sameInts_all (fun i _ => rfl)]
              replace hm : Mem w [] ((sb, .cells #[.int .i64 kd, .int .i64 id, .int .i64 x] 30 (0, 0)) :: (R2 ++ B2)) w5 := (Mem.right (A := S1 ++ S2) (hm.perm (M := (S1 ++ S2) ++ ((sb, .cells #[.int .i64 kd, .int .i64 id, .int .i64 x] 30 (0, 0)) :: (R2 ++ B2))) (perm_of fun x => by simp only [cnt_append, cnt_cons]; omega)))
              replace hT := hT2
              replace hU := hU2
              clear hT2 hU2
              generalize R2 = R at hm hU
              generalize B2 = B at hm hT
              generalize l2 = l at hT hU
              generalize x = now at hT hU
              go_wp2_with ((first | refine wpList_skip (by rfl) ?_ | (refine wlL (hm := hm) (hu := by first | exact undStp) (hi := by (try simp only [rowOf_size]); first | exact sizeStp) (h := ?_); (try simp only [Act.put, k1, k2, k3]); (try simp only [List.nil_append])) | refine wlLC (hm := hm) (hu := by first | exact undInt | exact undRSl) (h := ?_) | (refine wlS (hm := hm) (hv := (by first | rfl | exact idV_eq _ | exact labV_eq _ _ | exact rectV_eq _ _ _ _)) (hi := by (try simp only [rowOf_size]); first | exact sizeStp) (hs := by first | (simp only [rowOf_size]; done) | rfl) (h := ?_); clear hm; intro w1 hm; (try simp only [rowOf_set, k1, k2, k3, Value.cells, Act.eval, k7, k8, k9, kA, Option.getD_some] at hm)) | (refine wlSC (hm := hm) (hi := by first | exact sizeInt | exact sizeRSl) (ho := by first | decide | (simp only [rowOf_size]; omega) | (simp; done)) (h := ?_); clear hm; intro w1 hm; (try simp only [rowOf_set, k1, k2, k3, Value.cells, Act.eval, k7, k8, k9, kA, Option.getD_some] at hm)) | (refine wlA (hz := by first | exact zeroStp) (hm := hm) (h := ?_); clear hm; intro b1 w1 hm; (try simp only [rowOf_set, k1, k2, k3, Value.cells, Act.eval, k7, k8, k9, kA, Option.getD_some] at hm)) | (refine wl_box (by rfl) rfl (by first | exact idV_cells _ | exact labV_cells _ _ | exact rectV_cells _ _ _ _ | rfl) hm ?_; clear hm; intro b1 w1 hm) | (refine wl_build (by rfl) (built_rt) rfl ?_; (try simp only [Act.put, k1, k2, k3]); (try simp only [List.nil_append])) | (go_at_call 19; refine (timed_c _).mono ?_; rintro e w1 ⟨rfl, hx⟩; replace hm := hm.call hx; clear hx) | (with_reducible first | refine stBs ?_ | refine stMs ?_ | refine stAp ?_ | refine stCo ?_)); (try simp only [k4, k5, k6, Act.put, k1, k2, k3]))
              replace hm := hm.perm (M := ((sb, .cells #[.int .i64 kd, .int .i64 id, .int .i64 x] 30 (0, 0)) :: R) ++ B) (perm_of fun x => by simp only [cnt_append, cnt_cons]; omega)
              obtain ⟨np, nq, nb, n1, n2⟩ := both_next tb rb now l
              refine (n1.use hT hm).mono ?_
              clear hm hT
              rintro e w8 ⟨rfl, B1, hT, hm⟩
              go_wp2_with ((first | refine wpList_skip (by rfl) ?_ | (refine wlL (hm := hm) (hu := by first | exact undStp) (hi := by (try simp only [rowOf_size]); first | exact sizeStp) (h := ?_); (try simp only [Act.put, k1, k2, k3]); (try simp only [List.nil_append])) | refine wlLC (hm := hm) (hu := by first | exact undInt | exact undRSl) (h := ?_) | (refine wlS (hm := hm) (hv := (by first | rfl | exact idV_eq _ | exact labV_eq _ _ | exact rectV_eq _ _ _ _)) (hi := by (try simp only [rowOf_size]); first | exact sizeStp) (hs := by first | (simp only [rowOf_size]; done) | rfl) (h := ?_); clear hm; intro w1 hm; (try simp only [rowOf_set, k1, k2, k3, Value.cells, Act.eval, k7, k8, k9, kA, Option.getD_some] at hm)) | (refine wlSC (hm := hm) (hi := by first | exact sizeInt | exact sizeRSl) (ho := by first | decide | (simp only [rowOf_size]; omega) | (simp; done)) (h := ?_); clear hm; intro w1 hm; (try simp only [rowOf_set, k1, k2, k3, Value.cells, Act.eval, k7, k8, k9, kA, Option.getD_some] at hm)) | (refine wlA (hz := by first | exact zeroStp) (hm := hm) (h := ?_); clear hm; intro b1 w1 hm; (try simp only [rowOf_set, k1, k2, k3, Value.cells, Act.eval, k7, k8, k9, kA, Option.getD_some] at hm)) | (refine wl_box (by rfl) rfl (by first | exact idV_cells _ | exact labV_cells _ _ | exact rectV_cells _ _ _ _ | rfl) hm ?_; clear hm; intro b1 w1 hm) | (refine wl_build (by rfl) (built_rt) rfl ?_; (try simp only [Act.put, k1, k2, k3]); (try simp only [List.nil_append])) | (go_at_call 19; refine (timed_c _).mono ?_; rintro e w1 ⟨rfl, hx⟩; replace hm := hm.call hx; clear hx) | (with_reducible first | refine stBs ?_ | refine stMs ?_ | refine stAp ?_ | refine stCo ?_)); (try simp only [k4, k5, k6, Act.put, k1, k2, k3]))
              replace hm := hm.perm (M := ((sb, .cells #[.int .i64 kd, .int .i64 id, .int .i64 x] 30 (0, 0)) :: B1) ++ R) (perm_of fun x => by simp only [cnt_append, cnt_cons]; omega)
              refine (n2.use hU hm).mono ?_
              clear hm hU n1 n2
              rintro e w9 ⟨rfl, R1, hU, hm⟩
              go_wp2_with ((first | refine wpList_skip (by rfl) ?_ | (refine wlL (hm := hm) (hu := by first | exact undStp) (hi := by (try simp only [rowOf_size]); first | exact sizeStp) (h := ?_); (try simp only [Act.put, k1, k2, k3]); (try simp only [List.nil_append])) | refine wlLC (hm := hm) (hu := by first | exact undInt | exact undRSl) (h := ?_) | (refine wlS (hm := hm) (hv := (by first | rfl | exact idV_eq _ | exact labV_eq _ _ | exact rectV_eq _ _ _ _)) (hi := by (try simp only [rowOf_size]); first | exact sizeStp) (hs := by first | (simp only [rowOf_size]; done) | rfl) (h := ?_); clear hm; intro w1 hm; (try simp only [rowOf_set, k1, k2, k3, Value.cells, Act.eval, k7, k8, k9, kA, Option.getD_some] at hm)) | (refine wlSC (hm := hm) (hi := by first | exact sizeInt | exact sizeRSl) (ho := by first | decide | (simp only [rowOf_size]; omega) | (simp; done)) (h := ?_); clear hm; intro w1 hm; (try simp only [rowOf_set, k1, k2, k3, Value.cells, Act.eval, k7, k8, k9, kA, Option.getD_some] at hm)) | (refine wlA (hz := by first | exact zeroStp) (hm := hm) (h := ?_); clear hm; intro b1 w1 hm; (try simp only [rowOf_set, k1, k2, k3, Value.cells, Act.eval, k7, k8, k9, kA, Option.getD_some] at hm)) | (refine wl_box (by rfl) rfl (by first | exact idV_cells _ | exact labV_cells _ _ | exact rectV_cells _ _ _ _ | rfl) hm ?_; clear hm; intro b1 w1 hm) | (refine wl_build (by rfl) (built_rt) rfl ?_; (try simp only [Act.put, k1, k2, k3]); (try simp only [List.nil_append])) | (go_at_call 19; refine (timed_c _).mono ?_; rintro e w1 ⟨rfl, hx⟩; replace hm := hm.call hx; clear hx) | (with_reducible first | refine stBs ?_ | refine stMs ?_ | refine stAp ?_ | refine stCo ?_)); (try simp only [k4, k5, k6, Act.put, k1, k2, k3]))
              have hU0 := hU
              obtain ⟨sv, S, hS, hl, rfl⟩ := hU0
              obtain ⟨c', cap', rfl⟩ := hS.len
              replace hm : Mem w [] ((sb, .cells #[.int .i64 kd, .int .i64 id, .int .i64 x] 30 (0, 0)) :: (B1 ++ ((rb, .cells #[.slice c' l.length cap', .int .i64 now] 28 (0, 0)) :: S))) w9 := hm
              replace hm := hm.tail.perm (M := (rb, .cells #[.slice c' l.length cap', .int .i64 now] 28 (0, 0)) :: (S ++ B1)) (perm_of fun x => by simp only [cnt_append, cnt_cons]; omega)
              have d1 : (np != np) = false := by simp
              have d2 : (nq != nq) = false := by simp
              have d3 : (nb != nb) = false := by simp
              have d4 : (now != now) = false := by simp
              have d5 : ((l.length : Int) != (l.length : Int)) = false := by simp
              have d6 : (l.length != l.length) = false := by simp
              refine wp_quiet_mem (by kernel_rfl) (by kernel_rfl) hm ?_
              repeat ((first | refine wq_skip (by rfl) ?_ | (refine wqL (hu := by first | exact undStp) (hi := by (try simp only [rowOf_size]); first | exact sizeStp) (h := ?_); (try simp only [Act.put, k1, k2, k3]); (try simp only [List.nil_append])) | refine wqLC (hu := by first | exact undInt | exact undRSl) (h := ?_) | ((with_reducible show wpQuiet _ _ _ _ (⟨_, .call _, _, _, _, _⟩ :: _) _); refine wq_ask (by rfl) ?_; apply Exists.intro; refine ⟨?_, ?_⟩; (focus (intro w hC; go_simp; first | (go_at_call 17; exact now_q hT (A := (rb, _) :: S) hC) | (go_at_call 18; exact size_q hT (A := (rb, _) :: S) hC)))) | (refine wq_build (by rfl) (built_rt) rfl ?_; (try simp only [Act.put, k1, k2, k3]); (try simp only [List.nil_append])) | refine wqS (h := ?_)); (try simp only [k4, k5, k6, Act.put, k1, k2, k3]))
              refine wpQuiet_nil ?_; clear hm; intro w10 hm
              go_wp2_with ((first | refine wpList_skip (by rfl) ?_ | (refine wlL (hm := hm) (hu := by first | exact undStp) (hi := by (try simp only [rowOf_size]); first | exact sizeStp) (h := ?_); (try simp only [Act.put, k1, k2, k3]); (try simp only [List.nil_append])) | refine wlLC (hm := hm) (hu := by first | exact undInt | exact undRSl) (h := ?_) | (refine wlS (hm := hm) (hv := (by first | rfl | exact idV_eq _ | exact labV_eq _ _ | exact rectV_eq _ _ _ _)) (hi := by (try simp only [rowOf_size]); first | exact sizeStp) (hs := by first | (simp only [rowOf_size]; done) | rfl) (h := ?_); clear hm; intro w1 hm; (try simp only [rowOf_set, k1, k2, k3, Value.cells, Act.eval, k7, k8, k9, kA, Option.getD_some] at hm)) | (refine wlSC (hm := hm) (hi := by first | exact sizeInt | exact sizeRSl) (ho := by first | decide | (simp only [rowOf_size]; omega) | (simp; done)) (h := ?_); clear hm; intro w1 hm; (try simp only [rowOf_set, k1, k2, k3, Value.cells, Act.eval, k7, k8, k9, kA, Option.getD_some] at hm)) | (refine wlA (hz := by first | exact zeroStp) (hm := hm) (h := ?_); clear hm; intro b1 w1 hm; (try simp only [rowOf_set, k1, k2, k3, Value.cells, Act.eval, k7, k8, k9, kA, Option.getD_some] at hm)) | (refine wl_box (by rfl) rfl (by first | exact idV_cells _ | exact labV_cells _ _ | exact rectV_cells _ _ _ _ | rfl) hm ?_; clear hm; intro b1 w1 hm) | (refine wl_build (by rfl) (built_rt) rfl ?_; (try simp only [Act.put, k1, k2, k3]); (try simp only [List.nil_append])) | (go_at_call 19; refine (timed_c _).mono ?_; rintro e w1 ⟨rfl, hx⟩; replace hm := hm.call hx; clear hx) | (with_reducible first | refine stBs ?_ | refine stMs ?_ | refine stAp ?_ | refine stCo ?_)); (try simp only [k4, k5, k6, Act.put, k1, k2, k3]))
              go_roundw
              case rel => exact ⟨i + 1, l, now, B1, _, by omega, by go_num, hT, hU, hm⟩
              case measure => (simp [intOf]; try omega)
          · have d2' : (kd == 2) = false := by simp [k2']
            clear k2'
            go_wp2_with ((first | refine wpList_skip (by rfl) ?_ | (refine wlL (hm := hm) (hu := by first | exact undStp) (hi := by (try simp only [rowOf_size]); first | exact sizeStp) (h := ?_); (try simp only [Act.put, k1, k2, k3]); (try simp only [List.nil_append])) | refine wlLC (hm := hm) (hu := by first | exact undInt | exact undRSl) (h := ?_) | (refine wlS (hm := hm) (hv := (by first | rfl | exact idV_eq _ | exact labV_eq _ _ | exact rectV_eq _ _ _ _)) (hi := by (try simp only [rowOf_size]); first | exact sizeStp) (hs := by first | (simp only [rowOf_size]; done) | rfl) (h := ?_); clear hm; intro w1 hm; (try simp only [rowOf_set, k1, k2, k3, Value.cells, Act.eval, k7, k8, k9, kA, Option.getD_some] at hm)) | (refine wlSC (hm := hm) (hi := by first | exact sizeInt | exact sizeRSl) (ho := by first | decide | (simp only [rowOf_size]; omega) | (simp; done)) (h := ?_); clear hm; intro w1 hm; (try simp only [rowOf_set, k1, k2, k3, Value.cells, Act.eval, k7, k8, k9, kA, Option.getD_some] at hm)) | (refine wlA (hz := by first | exact zeroStp) (hm := hm) (h := ?_); clear hm; intro b1 w1 hm; (try simp only [rowOf_set, k1, k2, k3, Value.cells, Act.eval, k7, k8, k9, kA, Option.getD_some] at hm)) | (refine wl_box (by rfl) rfl (by first | exact idV_cells _ | exact labV_cells _ _ | exact rectV_cells _ _ _ _ | rfl) hm ?_; clear hm; intro b1 w1 hm) | (refine wl_build (by rfl) (built_rt) rfl ?_; (try simp only [Act.put, k1, k2, k3]); (try simp only [List.nil_append])) | (go_at_call 19; refine (timed_c _).mono ?_; rintro e w1 ⟨rfl, hx⟩; replace hm := hm.call hx; clear hx) | (with_reducible first | refine stBs ?_ | refine stMs ?_ | refine stAp ?_ | refine stCo ?_)); (try simp only [k4, k5, k6, Act.put, k1, k2, k3]))
            replace hm := hm.perm (M := ((sb, .cells #[.int .i64 kd, .int .i64 id, .int .i64 x] 30 (0, 0)) :: R) ++ B) (perm_of fun x => by simp only [cnt_append, cnt_cons]; omega)
            obtain ⟨np, nq, nb, n1, n2⟩ := both_next tb rb now l
            refine (n1.use hT hm).mono ?_
            clear hm hT
            rintro e w8 ⟨rfl, B1, hT, hm⟩
            go_wp2_with ((first | refine wpList_skip (by rfl) ?_ | (refine wlL (hm := hm) (hu := by first | exact undStp) (hi := by (try simp only [rowOf_size]); first | exact sizeStp) (h := ?_); (try simp only [Act.put, k1, k2, k3]); (try simp only [List.nil_append])) | refine wlLC (hm := hm) (hu := by first | exact undInt | exact undRSl) (h := ?_) | (refine wlS (hm := hm) (hv := (by first | rfl | exact idV_eq _ | exact labV_eq _ _ | exact rectV_eq _ _ _ _)) (hi := by (try simp only [rowOf_size]); first | exact sizeStp) (hs := by first | (simp only [rowOf_size]; done) | rfl) (h := ?_); clear hm; intro w1 hm; (try simp only [rowOf_set, k1, k2, k3, Value.cells, Act.eval, k7, k8, k9, kA, Option.getD_some] at hm)) | (refine wlSC (hm := hm) (hi := by first | exact sizeInt | exact sizeRSl) (ho := by first | decide | (simp only [rowOf_size]; omega) | (simp; done)) (h := ?_); clear hm; intro w1 hm; (try simp only [rowOf_set, k1, k2, k3, Value.cells, Act.eval, k7, k8, k9, kA, Option.getD_some] at hm)) | (refine wlA (hz := by first | exact zeroStp) (hm := hm) (h := ?_); clear hm; intro b1 w1 hm; (try simp only [rowOf_set, k1, k2, k3, Value.cells, Act.eval, k7, k8, k9, kA, Option.getD_some] at hm)) | (refine wl_box (by rfl) rfl (by first | exact idV_cells _ | exact labV_cells _ _ | exact rectV_cells _ _ _ _ | rfl) hm ?_; clear hm; intro b1 w1 hm) | (refine wl_build (by rfl) (built_rt) rfl ?_; (try simp only [Act.put, k1, k2, k3]); (try simp only [List.nil_append])) | (go_at_call 19; refine (timed_c _).mono ?_; rintro e w1 ⟨rfl, hx⟩; replace hm := hm.call hx; clear hx) | (with_reducible first | refine stBs ?_ | refine stMs ?_ | refine stAp ?_ | refine stCo ?_)); (try simp only [k4, k5, k6, Act.put, k1, k2, k3]))
            replace hm := hm.perm (M := ((sb, .cells #[.int .i64 kd, .int .i64 id, .int .i64 x] 30 (0, 0)) :: B1) ++ R) (perm_of fun x => by simp only [cnt_append, cnt_cons]; omega)
            refine (n2.use hU hm).mono ?_
            clear hm hU n1 n2
            rintro e w9 ⟨rfl, R1, hU, hm⟩
            go_wp2_with ((first | refine wpList_skip (by rfl) ?_ | (refine wlL (hm := hm) (hu := by first | exact undStp) (hi := by (try simp only [rowOf_size]); first | exact sizeStp) (h := ?_); (try simp only [Act.put, k1, k2, k3]); (try simp only [List.nil_append])) | refine wlLC (hm := hm) (hu := by first | exact undInt | exact undRSl) (h := ?_) | (refine wlS (hm := hm) (hv := (by first | rfl | exact idV_eq _ | exact labV_eq _ _ | exact rectV_eq _ _ _ _)) (hi := by (try simp only [rowOf_size]); first | exact sizeStp) (hs := by first | (simp only [rowOf_size]; done) | rfl) (h := ?_); clear hm; intro w1 hm; (try simp only [rowOf_set, k1, k2, k3, Value.cells, Act.eval, k7, k8, k9, kA, Option.getD_some] at hm)) | (refine wlSC (hm := hm) (hi := by first | exact sizeInt | exact sizeRSl) (ho := by first | decide | (simp only [rowOf_size]; omega) | (simp; done)) (h := ?_); clear hm; intro w1 hm; (try simp only [rowOf_set, k1, k2, k3, Value.cells, Act.eval, k7, k8, k9, kA, Option.getD_some] at hm)) | (refine wlA (hz := by first | exact zeroStp) (hm := hm) (h := ?_); clear hm; intro b1 w1 hm; (try simp only [rowOf_set, k1, k2, k3, Value.cells, Act.eval, k7, k8, k9, kA, Option.getD_some] at hm)) | (refine wl_box (by rfl) rfl (by first | exact idV_cells _ | exact labV_cells _ _ | exact rectV_cells _ _ _ _ | rfl) hm ?_; clear hm; intro b1 w1 hm) | (refine wl_build (by rfl) (built_rt) rfl ?_; (try simp only [Act.put, k1, k2, k3]); (try simp only [List.nil_append])) | (go_at_call 19; refine (timed_c _).mono ?_; rintro e w1 ⟨rfl, hx⟩; replace hm := hm.call hx; clear hx) | (with_reducible first | refine stBs ?_ | refine stMs ?_ | refine stAp ?_ | refine stCo ?_)); (try simp only [k4, k5, k6, Act.put, k1, k2, k3]))
            have hU0 := hU
            obtain ⟨sv, S, hS, hl, rfl⟩ := hU0
            obtain ⟨c', cap', rfl⟩ := hS.len
            replace hm : Mem w [] ((sb, .cells #[.int .i64 kd, .int .i64 id, .int .i64 x] 30 (0, 0)) :: (B1 ++ ((rb, .cells #[.slice c' l.length cap', .int .i64 now] 28 (0, 0)) :: S))) w9 := hm
            replace hm := hm.tail.perm (M := (rb, .cells #[.slice c' l.length cap', .int .i64 now] 28 (0, 0)) :: (S ++ B1)) (perm_of fun x => by simp only [cnt_append, cnt_cons]; omega)
            have d1 : (np != np) = false := by simp
            have d2 : (nq != nq) = false := by simp
            have d3 : (nb != nb) = false := by simp
            have d4 : (now != now) = false := by simp
            have d5 : ((l.length : Int) != (l.length : Int)) = false := by simp
            have d6 : (l.length != l.length) = false := by simp
            refine wp_quiet_mem (by kernel_rfl) (by kernel_rfl) hm ?_
            repeat ((first | refine wq_skip (by rfl) ?_ | (refine wqL (hu := by first | exact undStp) (hi := by (try simp only [rowOf_size]); first | exact sizeStp) (h := ?_); (try simp only [Act.put, k1, k2, k3]); (try simp only [List.nil_append])) | refine wqLC (hu := by first | exact undInt | exact undRSl) (h := ?_) | ((with_reducible show wpQuiet _ _ _ _ (⟨_, .call _, _, _, _, _⟩ :: _) _); refine wq_ask (by rfl) ?_; apply Exists.intro; refine ⟨?_, ?_⟩; (focus (intro w hC; go_simp; first | (go_at_call 17; exact now_q hT (A := (rb, _) :: S) hC) | (go_at_call 18; exact size_q hT (A := (rb, _) :: S) hC)))) | (refine wq_build (by rfl) (built_rt) rfl ?_; (try simp only [Act.put, k1, k2, k3]); (try simp only [List.nil_append])) | refine wqS (h := ?_)); (try simp only [k4, k5, k6, Act.put, k1, k2, k3]))
            refine wpQuiet_nil ?_; clear hm; intro w10 hm
            go_wp2_with ((first | refine wpList_skip (by rfl) ?_ | (refine wlL (hm := hm) (hu := by first | exact undStp) (hi := by (try simp only [rowOf_size]); first | exact sizeStp) (h := ?_); (try simp only [Act.put, k1, k2, k3]); (try simp only [List.nil_append])) | refine wlLC (hm := hm) (hu := by first | exact undInt | exact undRSl) (h := ?_) | (refine wlS (hm := hm) (hv := (by first | rfl | exact idV_eq _ | exact labV_eq _ _ | exact rectV_eq _ _ _ _)) (hi := by (try simp only [rowOf_size]); first | exact sizeStp) (hs := by first | (simp only [rowOf_size]; done) | rfl) (h := ?_); clear hm; intro w1 hm; (try simp only [rowOf_set, k1, k2, k3, Value.cells, Act.eval, k7, k8, k9, kA, Option.getD_some] at hm)) | (refine wlSC (hm := hm) (hi := by first | exact sizeInt | exact sizeRSl) (ho := by first | decide | (simp only [rowOf_size]; omega) | (simp; done)) (h := ?_); clear hm; intro w1 hm; (try simp only [rowOf_set, k1, k2, k3, Value.cells, Act.eval, k7, k8, k9, kA, Option.getD_some] at hm)) | (refine wlA (hz := by first | exact zeroStp) (hm := hm) (h := ?_); clear hm; intro b1 w1 hm; (try simp only [rowOf_set, k1, k2, k3, Value.cells, Act.eval, k7, k8, k9, kA, Option.getD_some] at hm)) | (refine wl_box (by rfl) rfl (by first | exact idV_cells _ | exact labV_cells _ _ | exact rectV_cells _ _ _ _ | rfl) hm ?_; clear hm; intro b1 w1 hm) | (refine wl_build (by rfl) (built_rt) rfl ?_; (try simp only [Act.put, k1, k2, k3]); (try simp only [List.nil_append])) | (go_at_call 19; refine (timed_c _).mono ?_; rintro e w1 ⟨rfl, hx⟩; replace hm := hm.call hx; clear hx) | (with_reducible first | refine stBs ?_ | refine stMs ?_ | refine stAp ?_ | refine stCo ?_)); (try simp only [k4, k5, k6, Act.put, k1, k2, k3]))
            go_roundw
            case rel => exact ⟨i + 1, l, now, B1, _, by omega, by go_num, hT, hU, hm⟩
            case measure => (simp [intOf]; try omega)
    · obtain rfl : i = n := by omega
      have e1 : ¬ (i : Int) < (i : Int) := by omega
      go_wp2_with ((first | refine wpList_skip (by rfl) ?_ | (refine wlL (hm := hm) (hu := by first | exact undStp) (hi := by (try simp only [rowOf_size]); first | exact sizeStp) (h := ?_); (try simp only [Act.put, k1, k2, k3]); (try simp only [List.nil_append])) | refine wlLC (hm := hm) (hu := by first | exact undInt | exact undRSl) (h := ?_) | (refine wlS (hm := hm) (hv := (by first | rfl | exact idV_eq _ | exact labV_eq _ _ | exact rectV_eq _ _ _ _)) (hi := by (try simp only [rowOf_size]); first | exact sizeStp) (hs := by first | (simp only [rowOf_size]; done) | rfl) (h := ?_); clear hm; intro w1 hm; (try simp only [rowOf_set, k1, k2, k3, Value.cells, Act.eval, k7, k8, k9, kA, Option.getD_some] at hm)) | (refine wlSC (hm := hm) (hi := by first | exact sizeInt | exact sizeRSl) (ho := by first | decide | (simp only [rowOf_size]; omega) | (simp; done)) (h := ?_); clear hm; intro w1 hm; (try simp only [rowOf_set, k1, k2, k3, Value.cells, Act.eval, k7, k8, k9, kA, Option.getD_some] at hm)) | (refine wlA (hz := by first | exact zeroStp) (hm := hm) (h := ?_); clear hm; intro b1 w1 hm; (try simp only [rowOf_set, k1, k2, k3, Value.cells, Act.eval, k7, k8, k9, kA, Option.getD_some] at hm)) | (refine wl_box (by rfl) rfl (by first | exact idV_cells _ | exact labV_cells _ _ | exact rectV_cells _ _ _ _ | rfl) hm ?_; clear hm; intro b1 w1 hm) | (refine wl_build (by rfl) (built_rt) rfl ?_; (try simp only [Act.put, k1, k2, k3]); (try simp only [List.nil_append])) | (go_at_call 19; refine (timed_c _).mono ?_; rintro e w1 ⟨rfl, hx⟩; replace hm := hm.call hx; clear hx) | (with_reducible first | refine stBs ?_ | refine stMs ?_ | refine stAp ?_ | refine stCo ?_)); (try simp only [k4, k5, k6, Act.put, k1, k2, k3]))
      go_ret
      exact ⟨rfl, hm.ext⟩
end Go.Proofs.Ythcpdjlomdchdaa
