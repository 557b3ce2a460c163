/-
  Timers: the document's row: one is taken away.
-/
import Derived.Test.YthcpdjlomdchdaaTimS
namespace Go.Proofs.Ythcpdjlomdchdaa
open Go.RowKit
set_option linter.unusedSimpArgs false
set_option linter.unusedVariables false
set_option maxHeartbeats 1000000
set_option maxRecDepth 20000

theorem undRSl : Try.prog.underlying 26 = some (.slice 56) := by kernel_rfl
theorem sizeRSl : (Try.prog.info? 26).map (·.size) = some 1 := by kernel_rfl
noncomputable def ronFields : Array Field := match Try.prog.underlying 56 with | some (.struct fs) => fs | _ => #[]
theorem undRon : Try.prog.underlying 56 = some (.struct ronFields) := by kernel_rfl
theorem sizeRon : (Try.prog.info? 56).map (·.size) = some 2 := by kernel_rfl
theorem zeroRon : (Try.prog.info? 56).bind (·.zero) = some (.agg #[.int .i64 0, .int .i64 0]) := by kernel_rfl
theorem built_ron (x y : Int) : Try.prog.built 56 [(0, .int .i64 x), (1, .int .i64 y)] = some #[.int .i64 x, .int .i64 y] := by kernel_rfl
theorem elRon : El Try.prog 26 56 2 16 (.agg #[.int .i64 0, .int .i64 0]) := El.mk (by kernel_rfl) (by kernel_rfl)

/-- A slice of the document's timers, in blocks of ours. -/
def PairSl (sv : Value) (l : Tl) (S : List (Nat × Obj)) : Prop :=
  (l = [] ∧ sv = .slice none 0 0 ∧ S = []) ∨ ∃ (g cap : Nat) (cur : Array Value), 0 < l.length ∧ l.length ≤ cap ∧ cap < 2 ^ 63 ∧ cur.size = cap * 2 ∧ Rows2 cur l.length (fun i => l.getD i (0, 0)) ∧ sv = .slice (some ⟨g, 0, none⟩) l.length cap ∧ S = [(g, .cells cur 56 (0, 0))]
theorem Rows2.snoc {cur cur' : Array Value} {l : Tl} {x : Int × Int} (hR : Rows2 cur l.length (fun i => l.getD i (0, 0))) (h1 : ∀ j, j < l.length * 2 → cur'[j]? = cur[j]?) (h2 : cur'[l.length * 2]? = some (.int .i64 x.1)) (h3 : cur'[l.length * 2 + 1]? = some (.int .i64 x.2)) :
    Rows2 cur' (l ++ [x]).length (fun i => (l ++ [x]).getD i (0, 0)) := fun i hi => by
  simp only [List.length_append, List.length_singleton] at hi
  by_cases hin : i < l.length
  · have e : (l ++ [x]).getD i (0, 0) = l.getD i (0, 0) := by simp [List.getElem?_append_left hin]
    simp only [e]
    rw [h1 _ (by omega), h1 _ (by omega)]
    exact hR i hin
  · obtain rfl : i = l.length := by omega
    have e : (l ++ [x]).getD l.length (0, 0) = x := by simp
    simp only [e]
    exact ⟨h2, h3⟩
theorem news2 {w0 w : World} {own : List Nat} {L : List (Nat × Obj)} {g i : Nat} {a b : Value} {U : TypeId} {fr : Nat × Nat} (hm : Mem w0 own L w) (hL : L[i]? = some (g, .cells #[a, b] U fr)) : ∀ j u, [a, b][j]? = some u → w.cell? ((⟨g, 0, none⟩ : Addr).add j) = some u := news_of hm hL
theorem ow_append_pair {Q : Exit → Act → World → Prop} {a : Act} {w0 w : World} {own : List Nat} {dst : Option Tmp} {ty : TypeId} {pos : String} {aft : Array Edge} {gd : Option (Nat × Bool)} {K : Act → World → Prop} {x y : Operand} {sx : Value} {l : Tl} {p : Int × Int} {gn : Nat} {S R : List (Nat × Obj)}
    (hx : PairSl sx l S) (hm : Mem w0 own ((gn, .cells #[.int .i64 p.1, .int .i64 p.2] 56 (0, 0)) :: (R ++ S)) w) (ex : a.eval x = sx) (ey : a.eval y = .slice (some ⟨gn, 0, none⟩) 1 1) (hb : l.length < 1000000)
    (h : ∀ sv S' w', PairSl sv (l ++ [p]) S' → Mem w0 own (R ++ S') w' → K (a.put dst sv) w') : Oper.wp Try.prog ⟨dst, .call ⟨.builtin .append, #[x, y], #[26, 26]⟩, ty, pos, aft, gd⟩ a w K Q := by
  rcases hx with ⟨rfl, rfl, rfl⟩ | ⟨g, cap, cur, s0, s1, s2, s3, s4, rfl, rfl⟩
  · refine ow_append_nil (m := 1) (c := 1) (news := [.int .i64 p.1, .int .i64 p.2]) (ad := ⟨gn, 0, none⟩) (sz := 2) hm elRon rfl ex ey (by decide) rfl (news2 hm (i := 0) rfl) (by decide) (by decide) ?_
    intro g' cap' cur' w' hm' p1 p2 p3 p4
    refine h _ [(g', .cells cur' 56 (0, 0))] _ (.inr ⟨g', cap', cur', by simp, by simpa using p1, p2, p3, ?_, by simp, rfl⟩) ((hm'.erase 1).perm (perm_of fun x => by simp only [List.eraseIdx, cnt_append, cnt_cons, cnt_nil]; omega))
    exact Rows2.snoc (l := []) (cur := #[]) (fun i hi => by simp at hi) (fun j hj => by simp at hj) (p4 0 (by omega)) (p4 1 (by omega))
  · replace hm := hm.perm (M := (g, .cells cur 56 (0, 0)) :: (gn, .cells #[.int .i64 p.1, .int .i64 p.2] 56 (0, 0)) :: R) (perm_of fun x => by simp only [cnt_append, cnt_cons, cnt_nil]; omega)
    refine ow_append (i := 0) (n := l.length) (m := 1) (c := 1) (news := [.int .i64 p.1, .int .i64 p.2]) (ad := ⟨gn, 0, none⟩) (sz := 2) (cur := cur) (g := g) hm elRon rfl rfl ex ey s1 s3 rfl (news2 hm (i := 1) rfl) (by intro u hu; simp at hu; rcases hu with rfl | rfl <;> rfl) (by omega) (by omega) ?_
    intro g' cap' cur' w' hm' p1 p2 p3 p4 p5 p6
    have e : l.length + 1 = (l ++ [p]).length := by simp
    refine h _ [(g', .cells cur' 56 (0, 0))] _ (.inr ⟨g', cap', cur', by rw [← e]; omega, by rw [← e]; exact p1, p2 s2, p3, ?_, by rw [e], rfl⟩) ((hm'.erase 1).perm (perm_of fun x => by simp only [List.set, List.eraseIdx, cnt_append, cnt_cons, cnt_nil]; omega))
    exact s4.snoc p4 (p5 0 (by omega)) (p5 1 (by omega))
theorem PairSl.len {sv : Value} {l : Tl} {S : List (Nat × Obj)} (h : PairSl sv l S) : ∃ (c : Option Addr) (cap : Nat), sv = .slice c l.length cap := by
  rcases h with ⟨rfl, rfl, _⟩ | ⟨g, cap, cur, _, _, _, _, _, rfl, _⟩
  · exact ⟨none, 0, rfl⟩
  · exact ⟨_, _, rfl⟩

/-- The document's timers. -/
def RefIs (rb : Nat) (now : Int) (l : Tl) (B : List (Nat × Obj)) : Prop := ∃ (sv : Value) (S : List (Nat × Obj)), PairSl sv l S ∧ l.length ≤ 1000 ∧ B = (rb, .cells #[sv, .int .i64 now] 28 (0, 0)) :: S
def RefCall (f : FuncId) (args : Array Value) (rb : Nat) (now : Int) (l : Tl) (v : Value) (now' : Int) (l' : Tl) : Prop :=
  ∀ w B, RefIs rb now l B → Mem w (B.map (·.1)) B w → Calls Try.prog f args w fun e w' => e = .returned v ∧ ∃ B', RefIs rb now' l' B' ∧ Mem w (B.map (·.1)) B' w'
theorem RefCall.use {f : FuncId} {args : Array Value} {tb : Nat} {now : Int} {l : Tl} {v : Value} {now' : Int} {l' : Tl} (h : RefCall f args tb now l v now' l') {w0 w : World} {own : List Nat} {A B : List (Nat × Obj)} (hT : RefIs tb now l B) (hm : Mem w0 own (A ++ B) w) :
    Calls Try.prog f args w fun e w' => e = .returned v ∧ ∃ B', RefIs tb now' l' B' ∧ Mem w0 own (A ++ B') w' :=
  (h w B hT hm.right.self).mono fun e w' ⟨he, B', h1, h2⟩ => ⟨he, B', h1, hm.callBehind h2⟩
theorem out_snoc {id : Int} {l : Tl} {i : Nat} (hi : i < l.length) : out id (l.take (i + 1)) = if (l.getD i (0, 0)).1 = id then out id (l.take i) else out id (l.take i) ++ [l.getD i (0, 0)] := by
  have e : l.take (i + 1) = l.take i ++ [l.getD i (0, 0)] := by
    rw [List.take_add_one, List.getD_eq_getElem?_getD, List.getElem?_eq_getElem hi]; rfl
  rw [e]
  unfold out
  rw [List.filter_append]
  by_cases h : (l.getD i (0, 0)).1 = id
  · rw [if_pos h, List.filter_cons_of_neg (by simp only [h]; simp), List.filter_nil, List.append_nil]
  · rw [if_neg h, List.filter_cons_of_pos (by simp only [Bool.not_eq_true', beq_eq_false_iff_ne]; exact h), List.filter_nil]
attribute [local irreducible] wpQuiet wpList wpAnyH wpAnyG Calls

theorem ref_cancel (rb : Nat) (now id : Int) (l : Tl) (r : Bool) (hr : decide ((out id l).length < l.length) = r) : RefCall 11 #[.pointer (some ⟨rb, 0, none⟩), .int .i64 id] rb now l (.bool r) now (out id l) := fun w B hT hm => by
  obtain ⟨sv, S, hS, hl, rfl⟩ := hT
  obtain ⟨own, hown⟩ : ∃ own, ((rb, .cells #[sv, .int .i64 now] 28 (0, 0)) :: S : List (Nat × Obj)).map (·.1) = own := ⟨_, rfl⟩
  rw [hown] at hm ⊢
  clear hown
  rcases hS with ⟨rfl, rfl, rfl⟩ | ⟨g, cap, cur, s0, s1, s2, s3, hR, rfl, rfl⟩
  · obtain rfl : r = false := by rw [← hr]; rfl
    go_enter Try.func11, Try.ntmps11
    go_wp2_with ((first | refine wpList_skip (by rfl) ?_ | (refine wlL (hm := hm) (hu := by first | exact undRon) (hi := by (try simp only [rowOf_size]); first | exact sizeRon) (h := ?_); (try simp only [Act.put, k1, k2, k3]); (try simp only [List.nil_append])) | (refine wlM (hm := hm) (hv := by first | exact hmid) (hu := by first | exact undRon) (hi := by (try simp only [rowOf_size]); first | exact sizeRon) (h := ?_); (try simp only [Act.put, k1, k2, k3]); (try simp only [List.nil_append])) | refine wlLC (hm := hm) (hv := by first | exact hR0 | rfl) (hu := by first | exact undInt | exact undRSl) (h := ?_) | (refine wlS (hm := hm) (hv := (by first | rfl | exact idV_eq _ | exact labV_eq _ _ | exact rectV_eq _ _ _ _)) (hi := by (try simp only [rowOf_size]); first | exact sizeRon) (hs := by first | (simp only [rowOf_size]; done) | rfl) (h := ?_); clear hm; intro w1 hm; (try simp only [rowOf_set, k1, k2, k3, Value.cells, Act.eval, k7, k8, k9, kA, Option.getD_some] at hm)) | (refine wlSC (hm := hm) (hi := by first | exact sizeInt | exact sizeRSl) (ho := by first | decide | (simp only [rowOf_size]; omega) | (simp; done)) (h := ?_); clear hm; intro w1 hm; (try simp only [rowOf_set, k1, k2, k3, Value.cells, Act.eval, k7, k8, k9, kA, Option.getD_some] at hm)) | (refine wlA (hz := by first | exact zeroRon) (hm := hm) (h := ?_); clear hm; intro b1 w1 hm; (try simp only [rowOf_set, k1, k2, k3, Value.cells, Act.eval, k7, k8, k9, kA, Option.getD_some] at hm)) | (refine wl_box (by rfl) rfl (by first | exact idV_cells _ | exact labV_cells _ _ | exact rectV_cells _ _ _ _ | rfl) hm ?_; clear hm; intro b1 w1 hm) | (refine wl_build (by rfl) (built_ron _ _) rfl ?_; (try simp only [Act.put, k1, k2, k3]); (try simp only [List.nil_append])) | (with_reducible first | refine stBs ?_ | refine stMs ?_ | refine stAp ?_ | refine stCo ?_)); (try simp only [k4, k5, k6, Act.put, k1, k2, k3]))
    go_loopw [5, 6] (fun vr vi wr => vr = .slice none 0 0 ∧ vi = .int .i64 0 ∧ Mem w own [(rb, .cells #[.slice none 0 0, .int .i64 now] 28 (0, 0))] wr) (fun _ _ _ => 0)
    case atStart => exact ⟨rfl, rfl, hm⟩
    case round =>
      clear hm
      obtain ⟨rfl, rfl, hm⟩ := hrel
      go_wp2_with ((first | refine wpList_skip (by rfl) ?_ | (refine wlL (hm := hm) (hu := by first | exact undRon) (hi := by (try simp only [rowOf_size]); first | exact sizeRon) (h := ?_); (try simp only [Act.put, k1, k2, k3]); (try simp only [List.nil_append])) | (refine wlM (hm := hm) (hv := by first | exact hmid) (hu := by first | exact undRon) (hi := by (try simp only [rowOf_size]); first | exact sizeRon) (h := ?_); (try simp only [Act.put, k1, k2, k3]); (try simp only [List.nil_append])) | refine wlLC (hm := hm) (hv := by first | exact hR0 | rfl) (hu := by first | exact undInt | exact undRSl) (h := ?_) | (refine wlS (hm := hm) (hv := (by first | rfl | exact idV_eq _ | exact labV_eq _ _ | exact rectV_eq _ _ _ _)) (hi := by (try simp only [rowOf_size]); first | exact sizeRon) (hs := by first | (simp only [rowOf_size]; done) | rfl) (h := ?_); clear hm; intro w1 hm; (try simp only [rowOf_set, k1, k2, k3, Value.cells, Act.eval, k7, k8, k9, kA, Option.getD_some] at hm)) | (refine wlSC (hm := hm) (hi := by first | exact sizeInt | exact sizeRSl) (ho := by first | decide | (simp only [rowOf_size]; omega) | (simp; done)) (h := ?_); clear hm; intro w1 hm; (try simp only [rowOf_set, k1, k2, k3, Value.cells, Act.eval, k7, k8, k9, kA, Option.getD_some] at hm)) | (refine wlA (hz := by first | exact zeroRon) (hm := hm) (h := ?_); clear hm; intro b1 w1 hm; (try simp only [rowOf_set, k1, k2, k3, Value.cells, Act.eval, k7, k8, k9, kA, Option.getD_some] at hm)) | (refine wl_box (by rfl) rfl (by first | exact idV_cells _ | exact labV_cells _ _ | exact rectV_cells _ _ _ _ | rfl) hm ?_; clear hm; intro b1 w1 hm) | (refine wl_build (by rfl) (built_ron _ _) rfl ?_; (try simp only [Act.put, k1, k2, k3]); (try simp only [List.nil_append])) | (with_reducible first | refine stBs ?_ | refine stMs ?_ | refine stAp ?_ | refine stCo ?_)); (try simp only [k4, k5, k6, Act.put, k1, k2, k3]))
      go_ret
      exact ⟨rfl, _, ⟨_, [], .inl ⟨rfl, rfl, rfl⟩, by simp [out], rfl⟩, hm⟩
  · go_enter Try.func11, Try.ntmps11
    go_wp2_with ((first | refine wpList_skip (by rfl) ?_ | (refine wlL (hm := hm) (hu := by first | exact undRon) (hi := by (try simp only [rowOf_size]); first | exact sizeRon) (h := ?_); (try simp only [Act.put, k1, k2, k3]); (try simp only [List.nil_append])) | (refine wlM (hm := hm) (hv := by first | exact hmid) (hu := by first | exact undRon) (hi := by (try simp only [rowOf_size]); first | exact sizeRon) (h := ?_); (try simp only [Act.put, k1, k2, k3]); (try simp only [List.nil_append])) | refine wlLC (hm := hm) (hv := by first | exact hR0 | rfl) (hu := by first | exact undInt | exact undRSl) (h := ?_) | (refine wlS (hm := hm) (hv := (by first | rfl | exact idV_eq _ | exact labV_eq _ _ | exact rectV_eq _ _ _ _)) (hi := by (try simp only [rowOf_size]); first | exact sizeRon) (hs := by first | (simp only [rowOf_size]; done) | rfl) (h := ?_); clear hm; intro w1 hm; (try simp only [rowOf_set, k1, k2, k3, Value.cells, Act.eval, k7, k8, k9, kA, Option.getD_some] at hm)) | (refine wlSC (hm := hm) (hi := by first | exact sizeInt | exact sizeRSl) (ho := by first | decide | (simp only [rowOf_size]; omega) | (simp; done)) (h := ?_); clear hm; intro w1 hm; (try simp only [rowOf_set, k1, k2, k3, Value.cells, Act.eval, k7, k8, k9, kA, Option.getD_some] at hm)) | (refine wlA (hz := by first | exact zeroRon) (hm := hm) (h := ?_); clear hm; intro b1 w1 hm; (try simp only [rowOf_set, k1, k2, k3, Value.cells, Act.eval, k7, k8, k9, kA, Option.getD_some] at hm)) | (refine wl_box (by rfl) rfl (by first | exact idV_cells _ | exact labV_cells _ _ | exact rectV_cells _ _ _ _ | rfl) hm ?_; clear hm; intro b1 w1 hm) | (refine wl_build (by rfl) (built_ron _ _) rfl ?_; (try simp only [Act.put, k1, k2, k3]); (try simp only [List.nil_append])) | (with_reducible first | refine stBs ?_ | refine stMs ?_ | refine stAp ?_ | refine stCo ?_)); (try simp only [k4, k5, k6, Act.put, k1, k2, k3]))
    have g00 := hid hr
    clear hr
    go_loopw [5, 6] (fun vr vi wr => ∃ (i : Nat) (S : List (Nat × Obj)), i ≤ l.length ∧ vi = .int .i64 (i : Int) ∧ PairSl vr (out id (l.take i)) S ∧
        Mem w own ([(rb, .cells #[.slice (some ⟨g, 0, none⟩) l.length cap, .int .i64 now] 28 (0, 0)), (g, .cells cur 56 (0, 0))] ++ S) wr) (fun _ vi _ => (l.length - intOf vi).toNat)
    case atStart => exact ⟨0, [], by omega, rfl, .inl ⟨rfl, rfl, rfl⟩, hm⟩
    case round =>
      clear hm
      obtain ⟨i, S, hi, rfl, hS, hm⟩ := hrel
      replace hm : Mem w own ((rb, .cells #[.slice (some ⟨g, 0, none⟩) l.length cap, .int .i64 now] 28 (0, 0)) :: (g, .cells cur 56 (0, 0)) :: S) wr := hm
      by_cases hin : i < l.length
      · have e1 : (i : Int) < (l.length : Int) := by omega
        have g1 : IntKind.i64.wrap ((i : Int) + 1) = (i : Int) + 1 := wrap_i64 (by omega) (by omega)
        have hR0 := (hR i hin).1
        have hsn := out_snoc (id := id) hin
        obtain ⟨x, hx⟩ : ∃ x, l.getD i (0, 0) = x := ⟨_, rfl⟩
        rw [hx] at hsn
        simp only [hx] at hR0
        have hmid : ∀ j v, (#[.int .i64 x.1, .int .i64 x.2] : Array Value).toList[j]? = some v → cur[i * 2 + j]? = some v := by rw [← hx]; exact hR.mid hin
        clear hR
        by_cases hxi : x.1 = id
        · have d1 : (x.1 != id) = false := by simp [hxi]
          rw [if_pos hxi] at hsn
          clear hxi
          go_wp2_with ((first | refine wpList_skip (by rfl) ?_ | (refine wlL (hm := hm) (hu := by first | exact undRon) (hi := by (try simp only [rowOf_size]); first | exact sizeRon) (h := ?_); (try simp only [Act.put, k1, k2, k3]); (try simp only [List.nil_append])) | (refine wlM (hm := hm) (hv := by first | exact hmid) (hu := by first | exact undRon) (hi := by (try simp only [rowOf_size]); first | exact sizeRon) (h := ?_); (try simp only [Act.put, k1, k2, k3]); (try simp only [List.nil_append])) | refine wlLC (hm := hm) (hv := by first | exact hR0 | rfl) (hu := by first | exact undInt | exact undRSl) (h := ?_) | (refine wlS (hm := hm) (hv := (by first | rfl | exact idV_eq _ | exact labV_eq _ _ | exact rectV_eq _ _ _ _)) (hi := by (try simp only [rowOf_size]); first | exact sizeRon) (hs := by first | (simp only [rowOf_size]; done) | rfl) (h := ?_); clear hm; intro w1 hm; (try simp only [rowOf_set, k1, k2, k3, Value.cells, Act.eval, k7, k8, k9, kA, Option.getD_some] at hm)) | (refine wlSC (hm := hm) (hi := by first | exact sizeInt | exact sizeRSl) (ho := by first | decide | (simp only [rowOf_size]; omega) | (simp; done)) (h := ?_); clear hm; intro w1 hm; (try simp only [rowOf_set, k1, k2, k3, Value.cells, Act.eval, k7, k8, k9, kA, Option.getD_some] at hm)) | (refine wlA (hz := by first | exact zeroRon) (hm := hm) (h := ?_); clear hm; intro b1 w1 hm; (try simp only [rowOf_set, k1, k2, k3, Value.cells, Act.eval, k7, k8, k9, kA, Option.getD_some] at hm)) | (refine wl_box (by rfl) rfl (by first | exact idV_cells _ | exact labV_cells _ _ | exact rectV_cells _ _ _ _ | rfl) hm ?_; clear hm; intro b1 w1 hm) | (refine wl_build (by rfl) (built_ron _ _) rfl ?_; (try simp only [Act.put, k1, k2, k3]); (try simp only [List.nil_append])) | (with_reducible first | refine stBs ?_ | refine stMs ?_ | refine stAp ?_ | refine stCo ?_)); (try simp only [k4, k5, k6, Act.put, k1, k2, k3]))
          go_roundw
          case rel => exact ⟨i + 1, S, by omega, by go_num, by rw [hsn]; exact hS, hm⟩
          case measure => (simp [intOf]; try omega)
        · have d1 : (x.1 != id) = true := by simp [bne, hxi]
          rw [if_neg hxi] at hsn
          clear hxi
          go_wp2_with ((first | refine wpList_skip (by rfl) ?_ | (refine wlL (hm := hm) (hu := by first | exact undRon) (hi := by (try simp only [rowOf_size]); first | exact sizeRon) (h := ?_); (try simp only [Act.put, k1, k2, k3]); (try simp only [List.nil_append])) | (refine wlM (hm := hm) (hv := by first | exact hmid) (hu := by first | exact undRon) (hi := by (try simp only [rowOf_size]); first | exact sizeRon) (h := ?_); (try simp only [Act.put, k1, k2, k3]); (try simp only [List.nil_append])) | refine wlLC (hm := hm) (hv := by first | exact hR0 | rfl) (hu := by first | exact undInt | exact undRSl) (h := ?_) | (refine wlS (hm := hm) (hv := (by first | rfl | exact idV_eq _ | exact labV_eq _ _ | exact rectV_eq _ _ _ _)) (hi := by (try simp only [rowOf_size]); first | exact sizeRon) (hs := by first | (simp only [rowOf_size]; done) | rfl) (h := ?_); clear hm; intro w1 hm; (try simp only [rowOf_set, k1, k2, k3, Value.cells, Act.eval, k7, k8, k9, kA, Option.getD_some] at hm)) | (refine wlSC (hm := hm) (hi := by first | exact sizeInt | exact sizeRSl) (ho := by first | decide | (simp only [rowOf_size]; omega) | (simp; done)) (h := ?_); clear hm; intro w1 hm; (try simp only [rowOf_set, k1, k2, k3, Value.cells, Act.eval, k7, k8, k9, kA, Option.getD_some] at hm)) | (refine wlA (hz := by first | exact zeroRon) (hm := hm) (h := ?_); clear hm; intro b1 w1 hm; (try simp only [rowOf_set, k1, k2, k3, Value.cells, Act.eval, k7, k8, k9, kA, Option.getD_some] at hm)) | (refine wl_box (by rfl) rfl (by first | exact idV_cells _ | exact labV_cells _ _ | exact rectV_cells _ _ _ _ | rfl) hm ?_; clear hm; intro b1 w1 hm) | (refine wl_build (by rfl) (built_ron _ _) rfl ?_; (try simp only [Act.put, k1, k2, k3]); (try simp only [List.nil_append])) | (with_reducible first | refine stBs ?_ | refine stMs ?_ | refine stAp ?_ | refine stCo ?_)); (try simp only [k4, k5, k6, Act.put, k1, k2, k3]))
          refine Stop.go (wl_buildSlice (ps := [(0, .agg #[.int .i64 x.1, .int .i64 x.2])]) (cells := #[.int .i64 x.1, .int .i64 x.2]) (by rfl) hm elRon (by decide) (by decide) (by simp [Act.eval]) (fill_pair _ _ _) ?_)
          clear hm; intro gn w2 hm; simp only [Act.put, k1, k2, k3]
          go_wp2_with ((first | refine wpList_skip (by rfl) ?_ | (refine wlL (hm := hm) (hu := by first | exact undRon) (hi := by (try simp only [rowOf_size]); first | exact sizeRon) (h := ?_); (try simp only [Act.put, k1, k2, k3]); (try simp only [List.nil_append])) | (refine wlM (hm := hm) (hv := by first | exact hmid) (hu := by first | exact undRon) (hi := by (try simp only [rowOf_size]); first | exact sizeRon) (h := ?_); (try simp only [Act.put, k1, k2, k3]); (try simp only [List.nil_append])) | refine wlLC (hm := hm) (hv := by first | exact hR0 | rfl) (hu := by first | exact undInt | exact undRSl) (h := ?_) | (refine wlS (hm := hm) (hv := (by first | rfl | exact idV_eq _ | exact labV_eq _ _ | exact rectV_eq _ _ _ _)) (hi := by (try simp only [rowOf_size]); first | exact sizeRon) (hs := by first | (simp only [rowOf_size]; done) | rfl) (h := ?_); clear hm; intro w1 hm; (try simp only [rowOf_set, k1, k2, k3, Value.cells, Act.eval, k7, k8, k9, kA, Option.getD_some] at hm)) | (refine wlSC (hm := hm) (hi := by first | exact sizeInt | exact sizeRSl) (ho := by first | decide | (simp only [rowOf_size]; omega) | (simp; done)) (h := ?_); clear hm; intro w1 hm; (try simp only [rowOf_set, k1, k2, k3, Value.cells, Act.eval, k7, k8, k9, kA, Option.getD_some] at hm)) | (refine wlA (hz := by first | exact zeroRon) (hm := hm) (h := ?_); clear hm; intro b1 w1 hm; (try simp only [rowOf_set, k1, k2, k3, Value.cells, Act.eval, k7, k8, k9, kA, Option.getD_some] at hm)) | (refine wl_box (by rfl) rfl (by first | exact idV_cells _ | exact labV_cells _ _ | exact rectV_cells _ _ _ _ | rfl) hm ?_; clear hm; intro b1 w1 hm) | (refine wl_build (by rfl) (built_ron _ _) rfl ?_; (try simp only [Act.put, k1, k2, k3]); (try simp only [List.nil_append])) | (with_reducible first | refine stBs ?_ | refine stMs ?_ | refine stAp ?_ | refine stCo ?_)); (try simp only [k4, k5, k6, Act.put, k1, k2, k3]))
          have hol : (out id (l.take i)).length < 1000000 := by
            have h1 := (out_sub id (l.take i)).length_le
            have h2 := List.length_take_le i l
            omega
          refine Stop.go (wl_op (by rfl) fun K hK => ow_append_pair (p := x) (R := [_, _]) hS hm rfl rfl hol ?_)
          clear hm hS
          intro sv' S' w4 hS hm
          refine hK _ _ ?_; clear hK K; simp only [Act.put, k1, k2, k3]
          go_wp2_with ((first | refine wpList_skip (by rfl) ?_ | (refine wlL (hm := hm) (hu := by first | exact undRon) (hi := by (try simp only [rowOf_size]); first | exact sizeRon) (h := ?_); (try simp only [Act.put, k1, k2, k3]); (try simp only [List.nil_append])) | (refine wlM (hm := hm) (hv := by first | exact hmid) (hu := by first | exact undRon) (hi := by (try simp only [rowOf_size]); first | exact sizeRon) (h := ?_); (try simp only [Act.put, k1, k2, k3]); (try simp only [List.nil_append])) | refine wlLC (hm := hm) (hv := by first | exact hR0 | rfl) (hu := by first | exact undInt | exact undRSl) (h := ?_) | (refine wlS (hm := hm) (hv := (by first | rfl | exact idV_eq _ | exact labV_eq _ _ | exact rectV_eq _ _ _ _)) (hi := by (try simp only [rowOf_size]); first | exact sizeRon) (hs := by first | (simp only [rowOf_size]; done) | rfl) (h := ?_); clear hm; intro w1 hm; (try simp only [rowOf_set, k1, k2, k3, Value.cells, Act.eval, k7, k8, k9, kA, Option.getD_some] at hm)) | (refine wlSC (hm := hm) (hi := by first | exact sizeInt | exact sizeRSl) (ho := by first | decide | (simp only [rowOf_size]; omega) | (simp; done)) (h := ?_); clear hm; intro w1 hm; (try simp only [rowOf_set, k1, k2, k3, Value.cells, Act.eval, k7, k8, k9, kA, Option.getD_some] at hm)) | (refine wlA (hz := by first | exact zeroRon) (hm := hm) (h := ?_); clear hm; intro b1 w1 hm; (try simp only [rowOf_set, k1, k2, k3, Value.cells, Act.eval, k7, k8, k9, kA, Option.getD_some] at hm)) | (refine wl_box (by rfl) rfl (by first | exact idV_cells _ | exact labV_cells _ _ | exact rectV_cells _ _ _ _ | rfl) hm ?_; clear hm; intro b1 w1 hm) | (refine wl_build (by rfl) (built_ron _ _) rfl ?_; (try simp only [Act.put, k1, k2, k3]); (try simp only [List.nil_append])) | (with_reducible first | refine stBs ?_ | refine stMs ?_ | refine stAp ?_ | refine stCo ?_)); (try simp only [k4, k5, k6, Act.put, k1, k2, k3]))
          go_roundw
          case rel => exact ⟨i + 1, S', by omega, by go_num, by rw [hsn]; exact hS, hm⟩
          case measure => (simp [intOf]; try omega)
      · obtain rfl : i = l.length := by omega
        have e1 : ¬ (l.length : Int) < (l.length : Int) := by omega
        rw [List.take_length] at hS
        obtain ⟨cc, cp, rfl⟩ := hS.len
        go_wp2_with ((first | refine wpList_skip (by rfl) ?_ | (refine wlL (hm := hm) (hu := by first | exact undRon) (hi := by (try simp only [rowOf_size]); first | exact sizeRon) (h := ?_); (try simp only [Act.put, k1, k2, k3]); (try simp only [List.nil_append])) | (refine wlM (hm := hm) (hv := by first | exact hmid) (hu := by first | exact undRon) (hi := by (try simp only [rowOf_size]); first | exact sizeRon) (h := ?_); (try simp only [Act.put, k1, k2, k3]); (try simp only [List.nil_append])) | refine wlLC (hm := hm) (hv := by first | exact hR0 | rfl) (hu := by first | exact undInt | exact undRSl) (h := ?_) | (refine wlS (hm := hm) (hv := (by first | rfl | exact idV_eq _ | exact labV_eq _ _ | exact rectV_eq _ _ _ _)) (hi := by (try simp only [rowOf_size]); first | exact sizeRon) (hs := by first | (simp only [rowOf_size]; done) | rfl) (h := ?_); clear hm; intro w1 hm; (try simp only [rowOf_set, k1, k2, k3, Value.cells, Act.eval, k7, k8, k9, kA, Option.getD_some] at hm)) | (refine wlSC (hm := hm) (hi := by first | exact sizeInt | exact sizeRSl) (ho := by first | decide | (simp only [rowOf_size]; omega) | (simp; done)) (h := ?_); clear hm; intro w1 hm; (try simp only [rowOf_set, k1, k2, k3, Value.cells, Act.eval, k7, k8, k9, kA, Option.getD_some] at hm)) | (refine wlA (hz := by first | exact zeroRon) (hm := hm) (h := ?_); clear hm; intro b1 w1 hm; (try simp only [rowOf_set, k1, k2, k3, Value.cells, Act.eval, k7, k8, k9, kA, Option.getD_some] at hm)) | (refine wl_box (by rfl) rfl (by first | exact idV_cells _ | exact labV_cells _ _ | exact rectV_cells _ _ _ _ | rfl) hm ?_; clear hm; intro b1 w1 hm) | (refine wl_build (by rfl) (built_ron _ _) rfl ?_; (try simp only [Act.put, k1, k2, k3]); (try simp only [List.nil_append])) | (with_reducible first | refine stBs ?_ | refine stMs ?_ | refine stAp ?_ | refine stCo ?_)); (try simp only [k4, k5, k6, Act.put, k1, k2, k3]))
        go_ret
        refine ⟨by rw [← g00.out] <;> rfl, _, ⟨_, S, hS, Nat.le_trans (out_sub id l).length_le hl, rfl⟩, ?_⟩
        exact hm.erase 1
end Go.Proofs.Ythcpdjlomdchdaa
