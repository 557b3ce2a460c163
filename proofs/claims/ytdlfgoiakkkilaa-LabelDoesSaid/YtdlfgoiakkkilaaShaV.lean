/-
  Sums: the document's words of a block; rows of words; are two rows the same?
-/
import Derived.Test.YtdlfgoiakkkilaaShaW
import Derived.Test.YtdlfgoiakkkilaaMem9
import Derived.Test.YtdlfgoiakkkilaaRefA
namespace Go.Proofs.Ytdlfgoiakkkilaa
open Go.RowKit
set_option linter.unusedSimpArgs false
set_option linter.unusedVariables false
set_option maxHeartbeats 1000000
set_option maxRecDepth 20000
attribute [local irreducible] wpQuiet wpList wpAnyH Calls

/-- A row that begins with n of F's words. -/
def RowW (F : Nat → Nat) (n cap : Nat) (cur : Array Value) : Prop := n ≤ cap ∧ cap < 2 ^ 63 ∧ cur.size = cap ∧ ∀ j, j < n → cur[j]? = some (.int .u32 ((F j : Nat) : Int))
/-- What both Words answer. -/
def WordsIn (F : Nat → Nat) (w : World) (e : Ending) (w' : World) : Prop := ∃ g cap cur, e = .returned (.tuple #[.slice (some ⟨g, 0, none⟩) 80 cap, .int .i64 0]) ∧ RowW F 80 cap cur ∧ Mem w [] [(g, .cells cur 50 (0, 0))] w'
theorem words_c (f : Nat → Nat) (hf : ∀ j, j < 64 → f j < 256) (w : World) : Calls Try.prog 42 #[.string (bytesB 64 f)] w (WordsIn (wd f) w) := by
  refine (words_ok f hf w).mono ?_
  rintro e w' ⟨g, rfl, hm⟩
  exact ⟨g, 80, _, rfl, ⟨by omega, by omega, R2_size f 80, fun j hj => R2_get f 80 j hj hj⟩, hm⟩
theorem refWords_bad (s : ByteArray) (h : s.size ≠ 64) (h1 : s.size < 2 ^ 62) (w : World) :
    Calls Try.prog 43 #[.string s] w fun e w' => e = .returned (.tuple #[.slice none 0 0, .int .i64 1]) ∧ Ext w w' := by
  have d0 : ((s.size : Int) != 64) = true := by rw [bne_iff_ne]; omega
  go_enter Try.func43, Try.ntmps43
  have hm := Mem.refl w []
  go_wp2_with ((first | refine wpList_skip (by rfl) ?_ | (refine wlL (hm := hm) (hu := by first | exact undState) (hi := by (try simp only [rowOf_size]); first | exact sizeState) (h := ?_); (try simp only [Act.put, k1, k2, k3]); (try simp only [← idV_eq])) | refine wlLC (hm := hm) (hv := by first | exact C1.out _ h80 | exact C2.out _ h80 | rfl) (hu := by first | exact undU32 | exact undByte) (h := ?_) | (refine wlS (hm := hm) (hv := (by first | rfl | exact idV_eq _ | exact labV_eq _ _ | exact rectV_eq _ _ _ _)) (hi := by (try simp only [rowOf_size]); first | exact sizeState) (hs := by first | (simp only [rowOf_size]; done) | rfl) (h := ?_); clear hm; intro w1 hm; (try simp only [rowOf_set, k1, k2, k3, Value.cells, Act.eval, k7, k8, k9, kA, Option.getD_some] at hm)) | (refine wlSC (hm := hm) (hi := by first | exact sizeU32 | exact sizeByte) (ho := by first | decide | (simp only [rowOf_size]; omega) | (simp; done)) (h := ?_); clear hm; intro w1 hm; (try simp only [rowOf_set, k1, k2, k3, Value.cells, Act.eval, k7, k8, k9, kA, Option.getD_some] at hm)) | (refine wlA (hz := by first | exact zeroState) (hm := hm) (h := ?_); clear hm; intro b1 w1 hm; (try simp only [rowOf_set, k1, k2, k3, Value.cells, Act.eval, k7, k8, k9, kA, Option.getD_some] at hm)) | (refine wl_box (by rfl) rfl (by first | exact idV_cells _ | exact labV_cells _ _ | exact rectV_cells _ _ _ _ | rfl) hm ?_; clear hm; intro b1 w1 hm) | (with_reducible first | refine stBs ?_ | refine stMs ?_ | refine stAp ?_ | refine stCo ?_)); (try simp only [k4, k5, k6, Act.put, k1, k2, k3]))
  go_ret2
  exact ⟨rfl, hm.ext⟩

theorem Mem.keepOf {w0 w : World} {own : List Nat} {L : List (Nat × Obj)} {g n i : Nat} {F : Nat → Value} {cur : Array Value} {E : TypeId} {fr : Nat × Nat} (h : Mem w0 own L w) (hi : L[i]? = some (g, .cells cur E fr)) (hc : ∀ j, j < n → cur[j]? = some (F j)) (h0 : Mem w0 own [] w) : KeepS w0 own [] g n F w :=
  ⟨h0, fun j hj => by rw [h.cell hi, hc j hj]⟩
theorem execOp_func {P : Program} {dst : Option Tmp} {ty : TypeId} {pos : String} {aft : Array Edge} {gd : Option (Nat × Bool)} {f : FuncId} {fn : Func} {c : Code} {xs : Array Operand} {args : Array Value} {ts : Array TypeId} {a : Act} {w : World}
    (hf : P.funcs[f]? = some fn) (hname : (fn.name == "runtime.NumGoroutine") = false) (hb : fn.body = some c) (hargs : xs.map a.eval = args) :
    (execOp a.eval ⟨dst, .call ⟨.value (.func f), xs, ts⟩, ty, pos, aft, gd⟩).run P w = .ok (.enter f args) w := by
  subst hargs
  have h1 : fn.name ≠ "runtime.NumGoroutine" := by simpa using hname
  unfold execOp
  simp [resolve, invoke, Deferred.ofValue, Sem.run_bind, Sem.run_pure, Act.eval, callFunc, hf, h1, hb]
theorem ow_enter {P : Program} {Q : Exit → Act → World → Prop} {a : Act} {w : World} {K : Act → World → Prop} {o : Oper} {f : FuncId} {args : Array Value} {R : Ending → World → Prop}
    (h1 : (execOp a.eval o).run P w = .ok (.enter f args) w) (h2 : Calls P f args w R) (h3 : ∀ e w', R e w' → ∃ v, e = .returned v ∧ K (a.put o.dst v) w') : Oper.wp P o a w K Q := by
  unfold Oper.wp
  rw [h1, Oper.upon_enter]
  exact h2.mono fun e w' hr => by obtain ⟨v, rfl, hk⟩ := h3 e w' hr; exact hk

/-- What the document's rounds keep: nothing yet, or a row of t words. -/
def Grown (F : Nat → Nat) (t : Nat) (v : Value) (L : List (Nat × Obj)) : Prop :=
  (t = 0 ∧ v = .slice none 0 0 ∧ L = []) ∨ (0 < t ∧ ∃ g cap cur, v = .slice (some ⟨g, 0, none⟩) t cap ∧ RowW F t cap cur ∧ L = [(g, .cells cur 50 (0, 0))])
theorem row_push {F : Nat → Nat} {n cap cap' : Nat} {cur cur' : Array Value} (h : RowW F n cap cur) (p1 : n + 1 ≤ cap') (p2 : cap < 2 ^ 63 → cap' < 2 ^ 63) (p3 : cur'.size = cap' * 1) (p4 : ∀ j, j < n * 1 → cur'[j]? = cur[j]?) (p5 : cur'[n * 1 + 0]? = some (.int .u32 ((F n : Nat) : Int))) : RowW F (n + 1) cap' cur' := by
  refine ⟨p1, p2 h.2.1, by omega, fun j hj => ?_⟩
  by_cases hjn : j < n
  · rw [p4 j (by omega)]; exact h.2.2.2 j hjn
  · obtain rfl : j = n := by omega
    rw [Nat.mul_one, Nat.add_zero] at p5
    exact p5

theorem refWords_ok (f : Nat → Nat) (hf : ∀ j, j < 64 → f j < 256) (w : World) : Calls Try.prog 43 #[.string (bytesB 64 f)] w (WordsIn (wd f) w) := by
  have hsz := bytesB_size 64 f
  have d0 : (((bytesB 64 f).size : Int) != 64) = false := by rw [hsz]; rfl
  have HI := hid (show ∀ k : Nat, k < 64 → ∀ w, (Instr.index 9 (.string (bytesB 64 f)) (.int .i64 (k : Int))).run Try.prog w = .ok (.int .u8 ((f k : Nat) : Int)) w from fun k hk => run_indexS (bytesB_get hk) (hf k hk))
  have HF := hid hf
  clear hf
  generalize bytesB 64 f = s at *
  go_enter Try.func43, Try.ntmps43
  have hm := Mem.refl w []
  go_wp2_with ((first | refine wpList_skip (by rfl) ?_ | (refine wlL (hm := hm) (hu := by first | exact undState) (hi := by (try simp only [rowOf_size]); first | exact sizeState) (h := ?_); (try simp only [Act.put, k1, k2, k3]); (try simp only [← idV_eq])) | refine wlLC (hm := hm) (hv := by first | exact C1.out _ h80 | exact C2.out _ h80 | rfl) (hu := by first | exact undU32 | exact undByte) (h := ?_) | (refine wlS (hm := hm) (hv := (by first | rfl | exact idV_eq _ | exact labV_eq _ _ | exact rectV_eq _ _ _ _)) (hi := by (try simp only [rowOf_size]); first | exact sizeState) (hs := by first | (simp only [rowOf_size]; done) | rfl) (h := ?_); clear hm; intro w1 hm; (try simp only [rowOf_set, k1, k2, k3, Value.cells, Act.eval, k7, k8, k9, kA, Option.getD_some] at hm)) | (refine wlSC (hm := hm) (hi := by first | exact sizeU32 | exact sizeByte) (ho := by first | decide | (simp only [rowOf_size]; omega) | (simp; done)) (h := ?_); clear hm; intro w1 hm; (try simp only [rowOf_set, k1, k2, k3, Value.cells, Act.eval, k7, k8, k9, kA, Option.getD_some] at hm)) | (refine wlA (hz := by first | exact zeroState) (hm := hm) (h := ?_); clear hm; intro b1 w1 hm; (try simp only [rowOf_set, k1, k2, k3, Value.cells, Act.eval, k7, k8, k9, kA, Option.getD_some] at hm)) | (refine wl_box (by rfl) rfl (by first | exact idV_cells _ | exact labV_cells _ _ | exact rectV_cells _ _ _ _ | rfl) hm ?_; clear hm; intro b1 w1 hm) | (with_reducible first | refine stBs ?_ | refine stMs ?_ | refine stAp ?_ | refine stCo ?_)); (try simp only [k4, k5, k6, Act.put, k1, k2, k3]))
  clear d0 hsz
  go_loopw [4, 5] (fun vs vi wr => ∃ t : Nat, t ≤ 16 ∧ vi = .int .i64 (t : Int) ∧ ∃ L, Grown (wd f) t vs L ∧ Mem w [] L wr)
    (fun _ vi _ => (16 - intOf vi).toNat)
  case atStart => exact ⟨0, by omega, rfl, [], Or.inl ⟨rfl, rfl, rfl⟩, hm⟩
  case round =>
    clear hm
    obtain ⟨t, ht, rfl, L, hgr, hm⟩ := hrel
    by_cases h16 : t < 16
    · have d1 : (t : Int) < 16 := by omega
      obtain ⟨q, hq⟩ : ∃ q, 4 * t = q := ⟨_, rfl⟩
      have w1 : IntKind.i64.wrap (4 * (t : Int)) = (q : Int) := by rw [wrap_i64 (by omega) (by omega)]; omega
      have w2' : IntKind.i64.wrap ((t : Int) + 1) = (t : Int) + 1 := wrap_i64 (by omega) (by omega)
      have HQ := hid hq
      clear hq
      have HG := hid hgr
      clear hgr
      go_wp2_with ((first | refine wpList_skip (by rfl) ?_ | (refine wlL (hm := hm) (hu := by first | exact undState) (hi := by (try simp only [rowOf_size]); first | exact sizeState) (h := ?_); (try simp only [Act.put, k1, k2, k3]); (try simp only [← idV_eq])) | refine wlLC (hm := hm) (hv := by first | exact C1.out _ h80 | exact C2.out _ h80 | rfl) (hu := by first | exact undU32 | exact undByte) (h := ?_) | (refine wlS (hm := hm) (hv := (by first | rfl | exact idV_eq _ | exact labV_eq _ _ | exact rectV_eq _ _ _ _)) (hi := by (try simp only [rowOf_size]); first | exact sizeState) (hs := by first | (simp only [rowOf_size]; done) | rfl) (h := ?_); clear hm; intro w1 hm; (try simp only [rowOf_set, k1, k2, k3, Value.cells, Act.eval, k7, k8, k9, kA, Option.getD_some] at hm)) | (refine wlSC (hm := hm) (hi := by first | exact sizeU32 | exact sizeByte) (ho := by first | decide | (simp only [rowOf_size]; omega) | (simp; done)) (h := ?_); clear hm; intro w1 hm; (try simp only [rowOf_set, k1, k2, k3, Value.cells, Act.eval, k7, k8, k9, kA, Option.getD_some] at hm)) | (refine wlA (hz := by first | exact zeroState) (hm := hm) (h := ?_); clear hm; intro b1 w1 hm; (try simp only [rowOf_set, k1, k2, k3, Value.cells, Act.eval, k7, k8, k9, kA, Option.getD_some] at hm)) | (refine wl_box (by rfl) rfl (by first | exact idV_cells _ | exact labV_cells _ _ | exact rectV_cells _ _ _ _ | rfl) hm ?_; clear hm; intro b1 w1 hm) | (with_reducible first | refine stBs ?_ | refine stMs ?_ | refine stAp ?_ | refine stCo ?_)); (try simp only [k4, k5, k6, Act.put, k1, k2, k3]))
      go_loopw [6, 7] (fun vv vj wr' => ∃ j : Nat, j ≤ 4 ∧ vj = .int .i64 (j : Int) ∧ vv = .int .u32 ((be4 f t j : Nat) : Int) ∧ Mem w [] L wr')
        (fun _ vj _ => (4 - intOf vj).toNat)
      case atStart => exact ⟨0, by omega, rfl, rfl, hm⟩
      case round =>
        clear hm
        obtain ⟨j, hj, rfl, rfl, hm⟩ := hrel
        by_cases h4 : j < 4
        · have e1 : (j : Int) < 4 := by omega
          have w3' : IntKind.i64.wrap ((j : Int) + 1) = (j : Int) + 1 := wrap_i64 (by omega) (by omega)
          have hb := be4_lt f t HF.out h16 j (by omega)
          have hp3 : 256 ^ j ≤ 256 ^ 3 := Nat.pow_le_pow_right (by omega) (by omega)
          obtain ⟨k, hk⟩ : ∃ k, q + j = k := ⟨_, rfl⟩
          have hI := HI.out k (by have := HQ.out; omega)
          have w4 : IntKind.i64.wrap ((q : Int) + (j : Int)) = (k : Int) := by have := HQ.out; rw [wrap_i64 (by omega) (by omega)]; omega
          have hfb := HF.out k (by have := HQ.out; omega)
          have HS := hid (show be4 f t (j + 1) = be4 f t j * 256 + f k from by rw [be4, HQ.out, hk])
          obtain ⟨v, hv⟩ : ∃ v, be4 f t j = v := ⟨_, rfl⟩
          obtain ⟨y, hy⟩ : ∃ y, f k = y := ⟨_, rfl⟩
          rw [hv] at hb HS
          rw [hy] at hfb HS hI
          rw [hv]
          have hv24 : v < 2 ^ 24 := by have : (256 : Nat) ^ 3 = 2 ^ 24 := by decide
                                       omega
          obtain ⟨z, hz⟩ : ∃ z, v * 256 + y = z := ⟨_, rfl⟩
          rw [hz] at HS
          have f1 : IntKind.u32.wrap (256 * (v : Int)) = 256 * (v : Int) := wrap_u32 (by omega) (by omega)
          have f2 : IntKind.u32.wrap (y : Int) = (y : Int) := wrap_u32 (by omega) (by omega)
          have f3 : IntKind.u32.wrap (256 * (v : Int) + (y : Int)) = (z : Int) := by rw [wrap_u32 (by omega) (by omega)]; omega
          clear hv hy hz hk hb hp3 hv24 hfb
          go_wp2_with ((first | refine wpList_skip (by rfl) ?_ | (refine wlL (hm := hm) (hu := by first | exact undState) (hi := by (try simp only [rowOf_size]); first | exact sizeState) (h := ?_); (try simp only [Act.put, k1, k2, k3]); (try simp only [← idV_eq])) | refine wlLC (hm := hm) (hv := by first | exact C1.out _ h80 | exact C2.out _ h80 | rfl) (hu := by first | exact undU32 | exact undByte) (h := ?_) | (refine wlS (hm := hm) (hv := (by first | rfl | exact idV_eq _ | exact labV_eq _ _ | exact rectV_eq _ _ _ _)) (hi := by (try simp only [rowOf_size]); first | exact sizeState) (hs := by first | (simp only [rowOf_size]; done) | rfl) (h := ?_); clear hm; intro w1 hm; (try simp only [rowOf_set, k1, k2, k3, Value.cells, Act.eval, k7, k8, k9, kA, Option.getD_some] at hm)) | (refine wlSC (hm := hm) (hi := by first | exact sizeU32 | exact sizeByte) (ho := by first | decide | (simp only [rowOf_size]; omega) | (simp; done)) (h := ?_); clear hm; intro w1 hm; (try simp only [rowOf_set, k1, k2, k3, Value.cells, Act.eval, k7, k8, k9, kA, Option.getD_some] at hm)) | (refine wlA (hz := by first | exact zeroState) (hm := hm) (h := ?_); clear hm; intro b1 w1 hm; (try simp only [rowOf_set, k1, k2, k3, Value.cells, Act.eval, k7, k8, k9, kA, Option.getD_some] at hm)) | (refine wl_box (by rfl) rfl (by first | exact idV_cells _ | exact labV_cells _ _ | exact rectV_cells _ _ _ _ | rfl) hm ?_; clear hm; intro b1 w1 hm) | (with_reducible first | refine stBs ?_ | refine stMs ?_ | refine stAp ?_ | refine stCo ?_)); (try simp only [k4, k5, k6, Act.put, k1, k2, k3]))
          go_roundw
          case rel => exact ⟨j + 1, by omega, by go_num, by rw [HS.out], hm⟩
          case measure => (simp [intOf]; try omega)
        · obtain rfl : j = 4 := by omega
          have HW := hid (wd_low f t h16)
          obtain ⟨v, hv⟩ : ∃ v, be4 f t 4 = v := ⟨_, rfl⟩
          rw [hv] at HW
          rw [hv]
          clear hv
          rcases HG.out with ⟨rfl, rfl, rfl⟩ | ⟨h0, g, cap, cur, rfl, hr, rfl⟩
          · clear HG
            go_wp2_with ((first | refine wpList_skip (by rfl) ?_ | (refine wlL (hm := hm) (hu := by first | exact undState) (hi := by (try simp only [rowOf_size]); first | exact sizeState) (h := ?_); (try simp only [Act.put, k1, k2, k3]); (try simp only [← idV_eq])) | refine wlLC (hm := hm) (hv := by first | exact C1.out _ h80 | exact C2.out _ h80 | rfl) (hu := by first | exact undU32 | exact undByte) (h := ?_) | (refine wlS (hm := hm) (hv := (by first | rfl | exact idV_eq _ | exact labV_eq _ _ | exact rectV_eq _ _ _ _)) (hi := by (try simp only [rowOf_size]); first | exact sizeState) (hs := by first | (simp only [rowOf_size]; done) | rfl) (h := ?_); clear hm; intro w1 hm; (try simp only [rowOf_set, k1, k2, k3, Value.cells, Act.eval, k7, k8, k9, kA, Option.getD_some] at hm)) | (refine wlSC (hm := hm) (hi := by first | exact sizeU32 | exact sizeByte) (ho := by first | decide | (simp only [rowOf_size]; omega) | (simp; done)) (h := ?_); clear hm; intro w1 hm; (try simp only [rowOf_set, k1, k2, k3, Value.cells, Act.eval, k7, k8, k9, kA, Option.getD_some] at hm)) | (refine wlA (hz := by first | exact zeroState) (hm := hm) (h := ?_); clear hm; intro b1 w1 hm; (try simp only [rowOf_set, k1, k2, k3, Value.cells, Act.eval, k7, k8, k9, kA, Option.getD_some] at hm)) | (refine wl_box (by rfl) rfl (by first | exact idV_cells _ | exact labV_cells _ _ | exact rectV_cells _ _ _ _ | rfl) hm ?_; clear hm; intro b1 w1 hm) | (with_reducible first | refine stBs ?_ | refine stMs ?_ | refine stAp ?_ | refine stCo ?_)); (try simp only [k4, k5, k6, Act.put, k1, k2, k3]))
            refine Stop.go (wl_buildSlice (ps := [(0, .int .u32 (v : Int))]) (cells := #[.int .u32 (v : Int)]) (by rfl) hm elWord (by decide) (by decide) (by simp [Act.eval]) (fill_one _ _ rfl) ?_)
            clear hm; intro gn w5 hm; simp only [Act.put, k1, k2, k3]
            go_wp2_with ((first | refine wpList_skip (by rfl) ?_ | (refine wlL (hm := hm) (hu := by first | exact undState) (hi := by (try simp only [rowOf_size]); first | exact sizeState) (h := ?_); (try simp only [Act.put, k1, k2, k3]); (try simp only [← idV_eq])) | refine wlLC (hm := hm) (hv := by first | exact C1.out _ h80 | exact C2.out _ h80 | rfl) (hu := by first | exact undU32 | exact undByte) (h := ?_) | (refine wlS (hm := hm) (hv := (by first | rfl | exact idV_eq _ | exact labV_eq _ _ | exact rectV_eq _ _ _ _)) (hi := by (try simp only [rowOf_size]); first | exact sizeState) (hs := by first | (simp only [rowOf_size]; done) | rfl) (h := ?_); clear hm; intro w1 hm; (try simp only [rowOf_set, k1, k2, k3, Value.cells, Act.eval, k7, k8, k9, kA, Option.getD_some] at hm)) | (refine wlSC (hm := hm) (hi := by first | exact sizeU32 | exact sizeByte) (ho := by first | decide | (simp only [rowOf_size]; omega) | (simp; done)) (h := ?_); clear hm; intro w1 hm; (try simp only [rowOf_set, k1, k2, k3, Value.cells, Act.eval, k7, k8, k9, kA, Option.getD_some] at hm)) | (refine wlA (hz := by first | exact zeroState) (hm := hm) (h := ?_); clear hm; intro b1 w1 hm; (try simp only [rowOf_set, k1, k2, k3, Value.cells, Act.eval, k7, k8, k9, kA, Option.getD_some] at hm)) | (refine wl_box (by rfl) rfl (by first | exact idV_cells _ | exact labV_cells _ _ | exact rectV_cells _ _ _ _ | rfl) hm ?_; clear hm; intro b1 w1 hm) | (with_reducible first | refine stBs ?_ | refine stMs ?_ | refine stAp ?_ | refine stCo ?_)); (try simp only [k4, k5, k6, Act.put, k1, k2, k3]))
            have hnw := news_of (i := 0) hm rfl
            refine Stop.go (wl_op (by rfl) fun K hK => ow_append_nil (m := 1) (c := 1) (news := [.int .u32 (v : Int)]) (ad := ⟨gn, 0, none⟩) (sz := 1) hm elWord rfl rfl rfl (by decide) rfl hnw (by decide) (by decide) ?_)
            intro g' cap' cur' w6 hm' p1 p2 p3 p4; clear hm; have hm := hm'; clear hm'; refine hK _ _ ?_; clear hK K; simp only [Act.put, k1, k2, k3]
            go_wp2_with ((first | refine wpList_skip (by rfl) ?_ | (refine wlL (hm := hm) (hu := by first | exact undState) (hi := by (try simp only [rowOf_size]); first | exact sizeState) (h := ?_); (try simp only [Act.put, k1, k2, k3]); (try simp only [← idV_eq])) | refine wlLC (hm := hm) (hv := by first | exact C1.out _ h80 | exact C2.out _ h80 | rfl) (hu := by first | exact undU32 | exact undByte) (h := ?_) | (refine wlS (hm := hm) (hv := (by first | rfl | exact idV_eq _ | exact labV_eq _ _ | exact rectV_eq _ _ _ _)) (hi := by (try simp only [rowOf_size]); first | exact sizeState) (hs := by first | (simp only [rowOf_size]; done) | rfl) (h := ?_); clear hm; intro w1 hm; (try simp only [rowOf_set, k1, k2, k3, Value.cells, Act.eval, k7, k8, k9, kA, Option.getD_some] at hm)) | (refine wlSC (hm := hm) (hi := by first | exact sizeU32 | exact sizeByte) (ho := by first | decide | (simp only [rowOf_size]; omega) | (simp; done)) (h := ?_); clear hm; intro w1 hm; (try simp only [rowOf_set, k1, k2, k3, Value.cells, Act.eval, k7, k8, k9, kA, Option.getD_some] at hm)) | (refine wlA (hz := by first | exact zeroState) (hm := hm) (h := ?_); clear hm; intro b1 w1 hm; (try simp only [rowOf_set, k1, k2, k3, Value.cells, Act.eval, k7, k8, k9, kA, Option.getD_some] at hm)) | (refine wl_box (by rfl) rfl (by first | exact idV_cells _ | exact labV_cells _ _ | exact rectV_cells _ _ _ _ | rfl) hm ?_; clear hm; intro b1 w1 hm) | (with_reducible first | refine stBs ?_ | refine stMs ?_ | refine stAp ?_ | refine stCo ?_)); (try simp only [k4, k5, k6, Act.put, k1, k2, k3]))
            go_roundw
            case rel => exact ⟨1, by omega, rfl, _, Or.inr ⟨by omega, g', cap', cur', rfl, ⟨p1, p2, by omega, fun j hj => by rw [show j = 0 from by omega, HW.out]; exact p4 0 (by omega)⟩, rfl⟩, hm.erase 1⟩
            case measure => (simp [intOf]; try omega)
          · clear HG
            have HR := hid hr
            clear hr
            go_wp2_with ((first | refine wpList_skip (by rfl) ?_ | (refine wlL (hm := hm) (hu := by first | exact undState) (hi := by (try simp only [rowOf_size]); first | exact sizeState) (h := ?_); (try simp only [Act.put, k1, k2, k3]); (try simp only [← idV_eq])) | refine wlLC (hm := hm) (hv := by first | exact C1.out _ h80 | exact C2.out _ h80 | rfl) (hu := by first | exact undU32 | exact undByte) (h := ?_) | (refine wlS (hm := hm) (hv := (by first | rfl | exact idV_eq _ | exact labV_eq _ _ | exact rectV_eq _ _ _ _)) (hi := by (try simp only [rowOf_size]); first | exact sizeState) (hs := by first | (simp only [rowOf_size]; done) | rfl) (h := ?_); clear hm; intro w1 hm; (try simp only [rowOf_set, k1, k2, k3, Value.cells, Act.eval, k7, k8, k9, kA, Option.getD_some] at hm)) | (refine wlSC (hm := hm) (hi := by first | exact sizeU32 | exact sizeByte) (ho := by first | decide | (simp only [rowOf_size]; omega) | (simp; done)) (h := ?_); clear hm; intro w1 hm; (try simp only [rowOf_set, k1, k2, k3, Value.cells, Act.eval, k7, k8, k9, kA, Option.getD_some] at hm)) | (refine wlA (hz := by first | exact zeroState) (hm := hm) (h := ?_); clear hm; intro b1 w1 hm; (try simp only [rowOf_set, k1, k2, k3, Value.cells, Act.eval, k7, k8, k9, kA, Option.getD_some] at hm)) | (refine wl_box (by rfl) rfl (by first | exact idV_cells _ | exact labV_cells _ _ | exact rectV_cells _ _ _ _ | rfl) hm ?_; clear hm; intro b1 w1 hm) | (with_reducible first | refine stBs ?_ | refine stMs ?_ | refine stAp ?_ | refine stCo ?_)); (try simp only [k4, k5, k6, Act.put, k1, k2, k3]))
            refine Stop.go (wl_buildSlice (ps := [(0, .int .u32 (v : Int))]) (cells := #[.int .u32 (v : Int)]) (by rfl) hm elWord (by decide) (by decide) (by simp [Act.eval]) (fill_one _ _ rfl) ?_)
            clear hm; intro gn w5 hm; simp only [Act.put, k1, k2, k3]
            go_wp2_with ((first | refine wpList_skip (by rfl) ?_ | (refine wlL (hm := hm) (hu := by first | exact undState) (hi := by (try simp only [rowOf_size]); first | exact sizeState) (h := ?_); (try simp only [Act.put, k1, k2, k3]); (try simp only [← idV_eq])) | refine wlLC (hm := hm) (hv := by first | exact C1.out _ h80 | exact C2.out _ h80 | rfl) (hu := by first | exact undU32 | exact undByte) (h := ?_) | (refine wlS (hm := hm) (hv := (by first | rfl | exact idV_eq _ | exact labV_eq _ _ | exact rectV_eq _ _ _ _)) (hi := by (try simp only [rowOf_size]); first | exact sizeState) (hs := by first | (simp only [rowOf_size]; done) | rfl) (h := ?_); clear hm; intro w1 hm; (try simp only [rowOf_set, k1, k2, k3, Value.cells, Act.eval, k7, k8, k9, kA, Option.getD_some] at hm)) | (refine wlSC (hm := hm) (hi := by first | exact sizeU32 | exact sizeByte) (ho := by first | decide | (simp only [rowOf_size]; omega) | (simp; done)) (h := ?_); clear hm; intro w1 hm; (try simp only [rowOf_set, k1, k2, k3, Value.cells, Act.eval, k7, k8, k9, kA, Option.getD_some] at hm)) | (refine wlA (hz := by first | exact zeroState) (hm := hm) (h := ?_); clear hm; intro b1 w1 hm; (try simp only [rowOf_set, k1, k2, k3, Value.cells, Act.eval, k7, k8, k9, kA, Option.getD_some] at hm)) | (refine wl_box (by rfl) rfl (by first | exact idV_cells _ | exact labV_cells _ _ | exact rectV_cells _ _ _ _ | rfl) hm ?_; clear hm; intro b1 w1 hm) | (with_reducible first | refine stBs ?_ | refine stMs ?_ | refine stAp ?_ | refine stCo ?_)); (try simp only [k4, k5, k6, Act.put, k1, k2, k3]))
            have hnw := news_of (i := 0) hm rfl
            refine Stop.go (wl_op (by rfl) fun K hK => ow_append (i := 1) (n := t) (m := 1) (c := 1) (news := [.int .u32 (v : Int)]) (ad := ⟨gn, 0, none⟩) (sz := 1) (cur := cur) (g := g) hm elWord ?h1 ?h2 ?h3 ?h4 HR.out.1 ?h5 ?h6 hnw ?h7 ?h8 ?h9 ?h10)
            case h1 => rfl
            case h2 => rfl
            case h3 => rfl
            case h4 => rfl
            case h5 => have := HR.out.2.2.1; omega
            case h6 => rfl
            case h7 => simp [Value.oneCell']
            case h8 => omega
            case h9 => omega
            intro g' cap' cur' w6 hm' p1 p2 p3 p4 p5 p6; clear hm; have hm := hm'; clear hm'; refine hK _ _ ?_; clear hK K; simp only [Act.put, k1, k2, k3]
            have HP := hid (row_push HR.out p1 p2 p3 p4 (by rw [p5 0 (by omega), HW.out]; rfl))
            clear p1 p2 p3 p4 p5 p6
            go_wp2_with ((first | refine wpList_skip (by rfl) ?_ | (refine wlL (hm := hm) (hu := by first | exact undState) (hi := by (try simp only [rowOf_size]); first | exact sizeState) (h := ?_); (try simp only [Act.put, k1, k2, k3]); (try simp only [← idV_eq])) | refine wlLC (hm := hm) (hv := by first | exact C1.out _ h80 | exact C2.out _ h80 | rfl) (hu := by first | exact undU32 | exact undByte) (h := ?_) | (refine wlS (hm := hm) (hv := (by first | rfl | exact idV_eq _ | exact labV_eq _ _ | exact rectV_eq _ _ _ _)) (hi := by (try simp only [rowOf_size]); first | exact sizeState) (hs := by first | (simp only [rowOf_size]; done) | rfl) (h := ?_); clear hm; intro w1 hm; (try simp only [rowOf_set, k1, k2, k3, Value.cells, Act.eval, k7, k8, k9, kA, Option.getD_some] at hm)) | (refine wlSC (hm := hm) (hi := by first | exact sizeU32 | exact sizeByte) (ho := by first | decide | (simp only [rowOf_size]; omega) | (simp; done)) (h := ?_); clear hm; intro w1 hm; (try simp only [rowOf_set, k1, k2, k3, Value.cells, Act.eval, k7, k8, k9, kA, Option.getD_some] at hm)) | (refine wlA (hz := by first | exact zeroState) (hm := hm) (h := ?_); clear hm; intro b1 w1 hm; (try simp only [rowOf_set, k1, k2, k3, Value.cells, Act.eval, k7, k8, k9, kA, Option.getD_some] at hm)) | (refine wl_box (by rfl) rfl (by first | exact idV_cells _ | exact labV_cells _ _ | exact rectV_cells _ _ _ _ | rfl) hm ?_; clear hm; intro b1 w1 hm) | (with_reducible first | refine stBs ?_ | refine stMs ?_ | refine stAp ?_ | refine stCo ?_)); (try simp only [k4, k5, k6, Act.put, k1, k2, k3]))
            go_roundw
            case rel => exact ⟨t + 1, by omega, by go_num, _, Or.inr ⟨by omega, g', cap', cur', rfl, HP.out, rfl⟩, hm.tail⟩
            case measure => (simp [intOf]; try omega)
    · obtain rfl : t = 16 := by omega
      rcases hgr with ⟨h0, _⟩ | ⟨_, g, cap, cur, rfl, hr, rfl⟩
      · cases h0
      have HR := hid hr
      clear hr
      go_wp2_with ((first | refine wpList_skip (by rfl) ?_ | (refine wlL (hm := hm) (hu := by first | exact undState) (hi := by (try simp only [rowOf_size]); first | exact sizeState) (h := ?_); (try simp only [Act.put, k1, k2, k3]); (try simp only [← idV_eq])) | refine wlLC (hm := hm) (hv := by first | exact C1.out _ h80 | exact C2.out _ h80 | rfl) (hu := by first | exact undU32 | exact undByte) (h := ?_) | (refine wlS (hm := hm) (hv := (by first | rfl | exact idV_eq _ | exact labV_eq _ _ | exact rectV_eq _ _ _ _)) (hi := by (try simp only [rowOf_size]); first | exact sizeState) (hs := by first | (simp only [rowOf_size]; done) | rfl) (h := ?_); clear hm; intro w1 hm; (try simp only [rowOf_set, k1, k2, k3, Value.cells, Act.eval, k7, k8, k9, kA, Option.getD_some] at hm)) | (refine wlSC (hm := hm) (hi := by first | exact sizeU32 | exact sizeByte) (ho := by first | decide | (simp only [rowOf_size]; omega) | (simp; done)) (h := ?_); clear hm; intro w1 hm; (try simp only [rowOf_set, k1, k2, k3, Value.cells, Act.eval, k7, k8, k9, kA, Option.getD_some] at hm)) | (refine wlA (hz := by first | exact zeroState) (hm := hm) (h := ?_); clear hm; intro b1 w1 hm; (try simp only [rowOf_set, k1, k2, k3, Value.cells, Act.eval, k7, k8, k9, kA, Option.getD_some] at hm)) | (refine wl_box (by rfl) rfl (by first | exact idV_cells _ | exact labV_cells _ _ | exact rectV_cells _ _ _ _ | rfl) hm ?_; clear hm; intro b1 w1 hm) | (with_reducible first | refine stBs ?_ | refine stMs ?_ | refine stAp ?_ | refine stCo ?_)); (try simp only [k4, k5, k6, Act.put, k1, k2, k3]))
      go_loopw [4, 8] (fun vs vi wr => ∃ t g cap : Nat, ∃ cur, 16 ≤ t ∧ t ≤ 80 ∧ vi = .int .i64 (t : Int) ∧ vs = .slice (some ⟨g, 0, none⟩) t cap ∧ Hid (RowW (wd f) t cap cur) ∧ Mem w [] [(g, .cells cur 50 (0, 0))] wr)
        (fun _ vi _ => (80 - intOf vi).toNat)
      case atStart => exact ⟨16, g, cap, cur, by omega, by omega, rfl, rfl, HR, hm⟩
      case round =>
        clear hm HR
        obtain ⟨t, g', cap', cur', ht16, ht80, rfl, rfl, HR, hm⟩ := hrel
        by_cases h80 : t < 80
        · have e1 : (t : Int) < 80 := by omega
          have w3' : IntKind.i64.wrap ((t : Int) + 1) = (t : Int) + 1 := wrap_i64 (by omega) (by omega)
          have HW := hid (wd_high f t ht16)
          obtain ⟨i3, hi3⟩ : ∃ i, t - 3 = i := ⟨_, rfl⟩
          obtain ⟨i8, hi8⟩ : ∃ i, t - 8 = i := ⟨_, rfl⟩
          obtain ⟨i14, hi14⟩ : ∃ i, t - 14 = i := ⟨_, rfl⟩
          obtain ⟨i16, hi16⟩ : ∃ i, t - 16 = i := ⟨_, rfl⟩
          rw [hi3, hi8, hi14, hi16] at HW
          have v3 : IntKind.i64.wrap ((t : Int) - 3) = (i3 : Int) := by rw [wrap_i64 (by omega) (by omega)]; omega
          have v8 : IntKind.i64.wrap ((t : Int) - 8) = (i8 : Int) := by rw [wrap_i64 (by omega) (by omega)]; omega
          have v14 : IntKind.i64.wrap ((t : Int) - 14) = (i14 : Int) := by rw [wrap_i64 (by omega) (by omega)]; omega
          have v16 : IntKind.i64.wrap ((t : Int) - 16) = (i16 : Int) := by rw [wrap_i64 (by omega) (by omega)]; omega
          have b3 : (i3 : Int) < (t : Int) := by omega
          have b8 : (i8 : Int) < (t : Int) := by omega
          have b14 : (i14 : Int) < (t : Int) := by omega
          have b16 : (i16 : Int) < (t : Int) := by omega
          have n3 : i3 < t := by omega
          have n8 : i8 < t := by omega
          have n14 : i14 < t := by omega
          have n16 : i16 < t := by omega
          have l3 := wd_lt f HF.out i3
          have l8 := wd_lt f HF.out i8
          have l14 := wd_lt f HF.out i14
          have l16 := wd_lt f HF.out i16
          have f1 : bits .xor .u32 ((wd f i3 : Nat) : Int) ((wd f i8 : Nat) : Int) = ((wd f i3 ^^^ wd f i8 : Nat) : Int) := u32_xor_nat _ _ l3 l8
          have f2 : bits .xor .u32 ((wd f i3 ^^^ wd f i8 : Nat) : Int) ((wd f i14 : Nat) : Int) = ((wd f i3 ^^^ wd f i8 ^^^ wd f i14 : Nat) : Int) := u32_xor_nat _ _ (Nat.xor_lt_two_pow l3 l8) l14
          have f3 : bits .xor .u32 ((wd f i3 ^^^ wd f i8 ^^^ wd f i14 : Nat) : Int) ((wd f i16 : Nat) : Int) = ((wd f i3 ^^^ wd f i8 ^^^ wd f i14 ^^^ wd f i16 : Nat) : Int) := u32_xor_nat _ _ (Nat.xor_lt_two_pow (Nat.xor_lt_two_pow l3 l8) l14) l16
          have hrc := left_c (wd f i3 ^^^ wd f i8 ^^^ wd f i14 ^^^ wd f i16) 1 (xor_lt4 l3 l8 l14 l16) (by decide)
          rw [← HW.out] at hrc
          obtain ⟨z, hz⟩ : ∃ z, wd f t = z := ⟨_, rfl⟩
          rw [hz] at hrc
          have HZ := hid hz
          clear l3 l8 l14 l16 hi3 hi8 hi14 hi16 HW hz
          go_wp2_with ((first | refine wpList_skip (by rfl) ?_ | (refine wlL (hm := hm) (hu := by first | exact undState) (hi := by (try simp only [rowOf_size]); first | exact sizeState) (h := ?_); (try simp only [Act.put, k1, k2, k3]); (try simp only [← idV_eq])) | refine wlLC (hm := hm) (hv := by first | exact C1.out _ h80 | exact C2.out _ h80 | rfl) (hu := by first | exact undU32 | exact undByte) (h := ?_) | (refine wlS (hm := hm) (hv := (by first | rfl | exact idV_eq _ | exact labV_eq _ _ | exact rectV_eq _ _ _ _)) (hi := by (try simp only [rowOf_size]); first | exact sizeState) (hs := by first | (simp only [rowOf_size]; done) | rfl) (h := ?_); clear hm; intro w1 hm; (try simp only [rowOf_set, k1, k2, k3, Value.cells, Act.eval, k7, k8, k9, kA, Option.getD_some] at hm)) | (refine wlSC (hm := hm) (hi := by first | exact sizeU32 | exact sizeByte) (ho := by first | decide | (simp only [rowOf_size]; omega) | (simp; done)) (h := ?_); clear hm; intro w1 hm; (try simp only [rowOf_set, k1, k2, k3, Value.cells, Act.eval, k7, k8, k9, kA, Option.getD_some] at hm)) | (refine wlA (hz := by first | exact zeroState) (hm := hm) (h := ?_); clear hm; intro b1 w1 hm; (try simp only [rowOf_set, k1, k2, k3, Value.cells, Act.eval, k7, k8, k9, kA, Option.getD_some] at hm)) | (refine wl_box (by rfl) rfl (by first | exact idV_cells _ | exact labV_cells _ _ | exact rectV_cells _ _ _ _ | rfl) hm ?_; clear hm; intro b1 w1 hm) | (with_reducible first | refine stBs ?_ | refine stMs ?_ | refine stAp ?_ | refine stCo ?_)); (try simp only [k4, k5, k6, Act.put, k1, k2, k3]))
          have hur := HR.out
          have hS := hm.drew.keep (n := t) (F := fun j => .int .u32 ((wd f j : Nat) : Int)) hur.2.2.2
          refine wp_region_held_drew (by kernel_rfl) hS (fun hS => ?_); replace hm := hm.drew
          clear hur
          refine whS (i := 0) (hS := hS) (h := ?_)
          simp only [k4, k5, k6, Act.put, k1, k2, k3]
          refine whS (i := 1) (hS := hS) (h := ?_)
          simp only [k4, k5, k6, Act.put, k1, k2, k3]
          refine whS (i := 2) (hS := hS) (h := ?_)
          simp only [k4, k5, k6, Act.put, k1, k2, k3]
          refine whS (i := 3) (hS := hS) (h := ?_)
          simp only [k4, k5, k6, Act.put, k1, k2, k3]
          refine whS (i := 4) (hS := hS) (h := ?_)
          simp only [k4, k5, k6, Act.put, k1, k2, k3]
          refine wh_any (i := 5) rfl (by kernel_rfl) (by kernel_rfl) (by kernel_rfl) (fun _ _ _ _ h => h) (by rfl) hS ⟨_, ld_keep rfl n3 undU32 rfl, ?_⟩; simp only [k4, k5, k6, Act.put, k1, k2, k3]
          refine whS (i := 6) (hS := hS) (h := ?_)
          simp only [k4, k5, k6, Act.put, k1, k2, k3]
          refine whS (i := 7) (hS := hS) (h := ?_)
          simp only [k4, k5, k6, Act.put, k1, k2, k3]
          refine whS (i := 8) (hS := hS) (h := ?_)
          simp only [k4, k5, k6, Act.put, k1, k2, k3]
          refine whS (i := 9) (hS := hS) (h := ?_)
          simp only [k4, k5, k6, Act.put, k1, k2, k3]
          refine wh_any (i := 10) rfl (by kernel_rfl) (by kernel_rfl) (by kernel_rfl) (fun _ _ _ _ h => h) (by rfl) hS ⟨_, ld_keep rfl n8 undU32 rfl, ?_⟩; simp only [k4, k5, k6, Act.put, k1, k2, k3]
          refine whS (i := 11) (hS := hS) (h := ?_)
          simp only [k4, k5, k6, Act.put, k1, k2, k3]
          refine whS (i := 12) (hS := hS) (h := ?_)
          simp only [k4, k5, k6, Act.put, k1, k2, k3]
          refine whS (i := 13) (hS := hS) (h := ?_)
          simp only [k4, k5, k6, Act.put, k1, k2, k3]
          refine whS (i := 14) (hS := hS) (h := ?_)
          simp only [k4, k5, k6, Act.put, k1, k2, k3]
          refine whS (i := 15) (hS := hS) (h := ?_)
          simp only [k4, k5, k6, Act.put, k1, k2, k3]
          refine wh_any (i := 16) rfl (by kernel_rfl) (by kernel_rfl) (by kernel_rfl) (fun _ _ _ _ h => h) (by rfl) hS ⟨_, ld_keep rfl n14 undU32 rfl, ?_⟩; simp only [k4, k5, k6, Act.put, k1, k2, k3]
          refine whS (i := 17) (hS := hS) (h := ?_)
          simp only [k4, k5, k6, Act.put, k1, k2, k3]
          refine whS (i := 18) (hS := hS) (h := ?_)
          simp only [k4, k5, k6, Act.put, k1, k2, k3]
          refine whS (i := 19) (hS := hS) (h := ?_)
          simp only [k4, k5, k6, Act.put, k1, k2, k3]
          refine whS (i := 20) (hS := hS) (h := ?_)
          simp only [k4, k5, k6, Act.put, k1, k2, k3]
          refine whS (i := 21) (hS := hS) (h := ?_)
          simp only [k4, k5, k6, Act.put, k1, k2, k3]
          refine wh_any (i := 22) rfl (by kernel_rfl) (by kernel_rfl) (by kernel_rfl) (fun _ _ _ _ h => h) (by rfl) hS ⟨_, ld_keep rfl n16 undU32 rfl, ?_⟩; simp only [k4, k5, k6, Act.put, k1, k2, k3]
          refine whS (i := 23) (hS := hS) (h := ?_)
          simp only [k4, k5, k6, Act.put, k1, k2, k3]
          clear n3 n8 n14 n16 b3 b8 b14 b16 v3 v8 v14 v16 f1 f2 f3
          refine wh_one (i := 24) (by kernel_rfl) rfl (by rfl) (fun K' hK => ?_)
          refine ow_enter ?he (hrc _) ?_
          case he => exact execOp_func Try.func68 (by kernel_rfl) rfl (by simp [Act.eval])
          rintro e w1 ⟨rfl, hx⟩
          refine ⟨_, rfl, hK.out _ _ (hS.call hx) ?_⟩
          replace hm := hm.call hx; clear hS hK K' hx; simp only [k4, k5, k6, Act.put, k1, k2, k3]
          refine wh_one (i := 25) (by kernel_rfl) rfl (by rfl) (fun K' hK => ?_)
          refine ow_buildSlice (cells := #[.int .u32 (z : Int)]) hm elWord (by decide) (by decide) (by simp [Act.eval]) (fill_one _ _ rfl) ?_
          clear hm; intro gn w5 hm
          have hS := hm.keepOf (g := g') (n := t) (F := fun j => .int .u32 ((wd f j : Nat) : Int)) (i := 1) rfl HR.out.2.2.2 hm.tail.tail
          refine hK.out _ _ hS ?_; clear hK K' hS; simp only [k4, k5, k6, Act.put, k1, k2, k3]
          refine wh_one (i := 26) (by kernel_rfl) rfl (by rfl) (fun K' hK => ?_)
          have hnw := news_of (i := 0) hm rfl
          refine ow_append_keep (i := 1) (n := t) (m := 1) (c := 1) (news := [.int .u32 (z : Int)]) (ad := ⟨gn, 0, none⟩) (sz := 1) (cur := cur') (g := g') hm elWord ?k0 ?k1 ?k2 ?k3 HR.out.1 ?k5 ?k6 hnw ?k7 ?k8 ?k9 ?k10
          case k0 => rfl
          case k1 => rfl
          case k2 => rfl
          case k3 => rfl
          case k5 => have := HR.out.2.2.1; omega
          case k6 => rfl
          case k7 => simp [Value.oneCell']
          case k8 => omega
          case k9 => omega
          intro g2 cap2 cur2 w6 hm' p1 p2 p3 p4 p5 p6
          have hS : KeepS w [] [] g' t (fun j => .int .u32 ((wd f j : Nat) : Int)) w6 := ⟨hm'.tail.tail, fun j hj => p6 j _ (by omega) (HR.out.2.2.2 j hj)⟩
          clear hm; have hm := hm'; clear hm'
          refine hK.out _ _ hS ?_; clear hK K'; simp only [k4, k5, k6, Act.put, k1, k2, k3]
          refine whS (i := 27) (hS := hS) (h := ?_)
          simp only [k4, k5, k6, Act.put, k1, k2, k3]
          refine wpAnyH_done (by kernel_rfl) ?_ _
          replace hm := hm.tail
          have HP := hid (row_push HR.out p1 p2 p3 p4 (by rw [p5 0 (by omega), HZ.out]; rfl))
          clear p1 p2 p3 p4 p5 p6
          go_wp2_with ((first | refine wpList_skip (by rfl) ?_ | (refine wlL (hm := hm) (hu := by first | exact undState) (hi := by (try simp only [rowOf_size]); first | exact sizeState) (h := ?_); (try simp only [Act.put, k1, k2, k3]); (try simp only [← idV_eq])) | refine wlLC (hm := hm) (hv := by first | exact C1.out _ h80 | exact C2.out _ h80 | rfl) (hu := by first | exact undU32 | exact undByte) (h := ?_) | (refine wlS (hm := hm) (hv := (by first | rfl | exact idV_eq _ | exact labV_eq _ _ | exact rectV_eq _ _ _ _)) (hi := by (try simp only [rowOf_size]); first | exact sizeState) (hs := by first | (simp only [rowOf_size]; done) | rfl) (h := ?_); clear hm; intro w1 hm; (try simp only [rowOf_set, k1, k2, k3, Value.cells, Act.eval, k7, k8, k9, kA, Option.getD_some] at hm)) | (refine wlSC (hm := hm) (hi := by first | exact sizeU32 | exact sizeByte) (ho := by first | decide | (simp only [rowOf_size]; omega) | (simp; done)) (h := ?_); clear hm; intro w1 hm; (try simp only [rowOf_set, k1, k2, k3, Value.cells, Act.eval, k7, k8, k9, kA, Option.getD_some] at hm)) | (refine wlA (hz := by first | exact zeroState) (hm := hm) (h := ?_); clear hm; intro b1 w1 hm; (try simp only [rowOf_set, k1, k2, k3, Value.cells, Act.eval, k7, k8, k9, kA, Option.getD_some] at hm)) | (refine wl_box (by rfl) rfl (by first | exact idV_cells _ | exact labV_cells _ _ | exact rectV_cells _ _ _ _ | rfl) hm ?_; clear hm; intro b1 w1 hm) | (with_reducible first | refine stBs ?_ | refine stMs ?_ | refine stAp ?_ | refine stCo ?_)); (try simp only [k4, k5, k6, Act.put, k1, k2, k3]))
          go_roundw
          case rel => exact ⟨t + 1, g2, cap2, cur2, by omega, by omega, by go_num, rfl, HP, hm⟩
          case measure => (simp [intOf]; try omega)
        · obtain rfl : t = 80 := by omega
          go_wp2_with ((first | refine wpList_skip (by rfl) ?_ | (refine wlL (hm := hm) (hu := by first | exact undState) (hi := by (try simp only [rowOf_size]); first | exact sizeState) (h := ?_); (try simp only [Act.put, k1, k2, k3]); (try simp only [← idV_eq])) | refine wlLC (hm := hm) (hv := by first | exact C1.out _ h80 | exact C2.out _ h80 | rfl) (hu := by first | exact undU32 | exact undByte) (h := ?_) | (refine wlS (hm := hm) (hv := (by first | rfl | exact idV_eq _ | exact labV_eq _ _ | exact rectV_eq _ _ _ _)) (hi := by (try simp only [rowOf_size]); first | exact sizeState) (hs := by first | (simp only [rowOf_size]; done) | rfl) (h := ?_); clear hm; intro w1 hm; (try simp only [rowOf_set, k1, k2, k3, Value.cells, Act.eval, k7, k8, k9, kA, Option.getD_some] at hm)) | (refine wlSC (hm := hm) (hi := by first | exact sizeU32 | exact sizeByte) (ho := by first | decide | (simp only [rowOf_size]; omega) | (simp; done)) (h := ?_); clear hm; intro w1 hm; (try simp only [rowOf_set, k1, k2, k3, Value.cells, Act.eval, k7, k8, k9, kA, Option.getD_some] at hm)) | (refine wlA (hz := by first | exact zeroState) (hm := hm) (h := ?_); clear hm; intro b1 w1 hm; (try simp only [rowOf_set, k1, k2, k3, Value.cells, Act.eval, k7, k8, k9, kA, Option.getD_some] at hm)) | (refine wl_box (by rfl) rfl (by first | exact idV_cells _ | exact labV_cells _ _ | exact rectV_cells _ _ _ _ | rfl) hm ?_; clear hm; intro b1 w1 hm) | (with_reducible first | refine stBs ?_ | refine stMs ?_ | refine stAp ?_ | refine stCo ?_)); (try simp only [k4, k5, k6, Act.put, k1, k2, k3]))
          go_ret2
          exact ⟨g', cap', cur', rfl, HR.out, hm⟩
end Go.Proofs.Ytdlfgoiakkkilaa
