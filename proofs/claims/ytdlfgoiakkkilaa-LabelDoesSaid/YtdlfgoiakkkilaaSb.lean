/-
  strings.Builder: copyCheck, WriteString onto nothing, AppendRune and WriteRune of a byte, String.
-/
import Derived.Test.YtdlfgoiakkkilaaLabA
import Derived.Test.YtdlfgoiakkkilaaMem7
import Derived.Test.YtdlfgoiakkkilaaTxt
import Derived.Test.YtdlfgoiakkkilaaShelf
import Derived.Lib.Builder
namespace Go.Proofs.Ytdlfgoiakkkilaa
open Go.RowKit
set_option linter.unusedSimpArgs false
set_option linter.unusedVariables false
set_option maxHeartbeats 1000000
set_option maxRecDepth 20000
attribute [local irreducible] wpQuiet wpList wpAnyH Calls

theorem undPB : Try.prog.underlying 67 = some (.pointer 69) := by kernel_rfl
theorem sizePB : (Try.prog.info? 67).map (·.size) = some 1 := by kernel_rfl
theorem undBytes : Try.prog.underlying 65 = some (.slice 5) := by kernel_rfl
theorem sizeBytes : (Try.prog.info? 65).map (·.size) = some 1 := by kernel_rfl
theorem undUn : Try.prog.underlying 105 = some .unsafePointer := by kernel_rfl
theorem undStr : Try.prog.underlying 9 = some .string := by kernel_rfl
theorem elByte : El Try.prog 65 5 1 1 (.int .u8 0) := El.mk (by kernel_rfl) (by kernel_rfl)

theorem sizeB : (Try.prog.info? 69).map (·.size) = some 2 := by kernel_rfl
theorem liesB : liesAt Try.prog Try.prog.depth 69 (2 / Try.prog.cellsOf 69) 0 69 1 = true := by kernel_rfl
theorem check_fresh (b : Nat) (v : Value) (w : World) (h : w.heap[b]? = some (.cells #[.pointer none, v] 69 (0, 0))) :
    Calls Try.prog 72 #[.pointer (some ⟨b, 0, none⟩)] w fun e w' => e = .returned (.tuple #[]) ∧ Mem w [b] [(b, .cells #[.pointer (some ⟨b, 0, none⟩), v] 69 (0, 0))] w' := by
  go_enter Try.func72, Try.ntmps72
  have hm := Mem.start h
  go_wp2_with ((first | refine wpList_skip (by rfl) ?_ | (refine wlL (hm := hm) (hu := by first | exact undID) (hi := by (try simp only [rowOf_size]); first | exact sizeID) (h := ?_); (try simp only [Act.put, k1, k2, k3]); (try simp only [← idV_eq])) | refine wlLC (hm := hm) (hu := by first | exact undPB | exact undBytes) (h := ?_) | (refine wlS (hm := hm) (hv := (by first | rfl | exact idV_eq _ | exact labV_eq _ _ | exact rectV_eq _ _ _ _)) (hi := by (try simp only [rowOf_size]); first | exact sizeID) (hs := by first | (simp only [rowOf_size]; done) | rfl) (h := ?_); clear hm; intro w1 hm; (try simp only [rowOf_set, k1, k2, k3, Value.cells, Act.eval, k7, k8, k9, kA, Option.getD_some] at hm)) | (refine wlSC (hm := hm) (hi := by first | exact sizePB | exact sizeBytes) (ho := by first | decide | (simp only [rowOf_size]; omega) | (simp; done)) (h := ?_); clear hm; intro w1 hm; (try simp only [rowOf_set, k1, k2, k3, Value.cells, Act.eval, k7, k8, k9, kA, Option.getD_some] at hm)) | (refine wlA (hz := by first | exact zeroID) (hm := hm) (h := ?_); clear hm; intro b1 w1 hm; (try simp only [rowOf_set, k1, k2, k3, Value.cells, Act.eval, k7, k8, k9, kA, Option.getD_some] at hm)) | (refine wl_box (by rfl) rfl (by first | exact idV_cells _ | exact labV_cells _ _ | exact rectV_cells _ _ _ _ | rfl) hm ?_; clear hm; intro b1 w1 hm) | (with_reducible first | refine stBs ?_ | refine stMs ?_ | refine stAp ?_ | refine stCo ?_)); (try simp only [k4, k5, k6, Act.put, k1, k2, k3]))
  obtain ⟨j, hj, hjs⟩ := Option.map_eq_some_iff.1 sizeB
  have hsh := hm.shape (i := 0) rfl
  rw [Lib.run_to_unsafe _ ⟨b, 0, none⟩ undPB undUn hj (by rw [hjs]; decide) hsh (Nat.zero_lt_succ 1)]
  simp only [Result.andThen]
  rw [Oper.upon_value]
  go_wp2_with ((first | refine wpList_skip (by rfl) ?_ | (refine wlL (hm := hm) (hu := by first | exact undID) (hi := by (try simp only [rowOf_size]); first | exact sizeID) (h := ?_); (try simp only [Act.put, k1, k2, k3]); (try simp only [← idV_eq])) | refine wlLC (hm := hm) (hu := by first | exact undPB | exact undBytes) (h := ?_) | (refine wlS (hm := hm) (hv := (by first | rfl | exact idV_eq _ | exact labV_eq _ _ | exact rectV_eq _ _ _ _)) (hi := by (try simp only [rowOf_size]); first | exact sizeID) (hs := by first | (simp only [rowOf_size]; done) | rfl) (h := ?_); clear hm; intro w1 hm; (try simp only [rowOf_set, k1, k2, k3, Value.cells, Act.eval, k7, k8, k9, kA, Option.getD_some] at hm)) | (refine wlSC (hm := hm) (hi := by first | exact sizePB | exact sizeBytes) (ho := by first | decide | (simp only [rowOf_size]; omega) | (simp; done)) (h := ?_); clear hm; intro w1 hm; (try simp only [rowOf_set, k1, k2, k3, Value.cells, Act.eval, k7, k8, k9, kA, Option.getD_some] at hm)) | (refine wlA (hz := by first | exact zeroID) (hm := hm) (h := ?_); clear hm; intro b1 w1 hm; (try simp only [rowOf_set, k1, k2, k3, Value.cells, Act.eval, k7, k8, k9, kA, Option.getD_some] at hm)) | (refine wl_box (by rfl) rfl (by first | exact idV_cells _ | exact labV_cells _ _ | exact rectV_cells _ _ _ _ | rfl) hm ?_; clear hm; intro b1 w1 hm) | (with_reducible first | refine stBs ?_ | refine stMs ?_ | refine stAp ?_ | refine stCo ?_)); (try simp only [k4, k5, k6, Act.put, k1, k2, k3]))
  rw [run_callFunc_extern Try.func82 (by kernel_rfl) (by kernel_rfl) (by kernel_rfl) (e := Extern.AbiNoEscape.same) (by kernel_rfl)]
  rw [Lib.run_noEscape]
  simp only [Result.andThen]
  rw [Oper.upon_value]
  go_wp2_with ((first | refine wpList_skip (by rfl) ?_ | (refine wlL (hm := hm) (hu := by first | exact undID) (hi := by (try simp only [rowOf_size]); first | exact sizeID) (h := ?_); (try simp only [Act.put, k1, k2, k3]); (try simp only [← idV_eq])) | refine wlLC (hm := hm) (hu := by first | exact undPB | exact undBytes) (h := ?_) | (refine wlS (hm := hm) (hv := (by first | rfl | exact idV_eq _ | exact labV_eq _ _ | exact rectV_eq _ _ _ _)) (hi := by (try simp only [rowOf_size]); first | exact sizeID) (hs := by first | (simp only [rowOf_size]; done) | rfl) (h := ?_); clear hm; intro w1 hm; (try simp only [rowOf_set, k1, k2, k3, Value.cells, Act.eval, k7, k8, k9, kA, Option.getD_some] at hm)) | (refine wlSC (hm := hm) (hi := by first | exact sizePB | exact sizeBytes) (ho := by first | decide | (simp only [rowOf_size]; omega) | (simp; done)) (h := ?_); clear hm; intro w1 hm; (try simp only [rowOf_set, k1, k2, k3, Value.cells, Act.eval, k7, k8, k9, kA, Option.getD_some] at hm)) | (refine wlA (hz := by first | exact zeroID) (hm := hm) (h := ?_); clear hm; intro b1 w1 hm; (try simp only [rowOf_set, k1, k2, k3, Value.cells, Act.eval, k7, k8, k9, kA, Option.getD_some] at hm)) | (refine wl_box (by rfl) rfl (by first | exact idV_cells _ | exact labV_cells _ _ | exact rectV_cells _ _ _ _ | rfl) hm ?_; clear hm; intro b1 w1 hm) | (with_reducible first | refine stBs ?_ | refine stMs ?_ | refine stAp ?_ | refine stCo ?_)); (try simp only [k4, k5, k6, Act.put, k1, k2, k3]))
  rw [Lib.run_from_unsafe _ ⟨b, 0, none⟩ undUn undPB hj hsh liesB]
  simp only [Result.andThen]
  rw [Oper.upon_value]
  go_wp2_with ((first | refine wpList_skip (by rfl) ?_ | (refine wlL (hm := hm) (hu := by first | exact undID) (hi := by (try simp only [rowOf_size]); first | exact sizeID) (h := ?_); (try simp only [Act.put, k1, k2, k3]); (try simp only [← idV_eq])) | refine wlLC (hm := hm) (hu := by first | exact undPB | exact undBytes) (h := ?_) | (refine wlS (hm := hm) (hv := (by first | rfl | exact idV_eq _ | exact labV_eq _ _ | exact rectV_eq _ _ _ _)) (hi := by (try simp only [rowOf_size]); first | exact sizeID) (hs := by first | (simp only [rowOf_size]; done) | rfl) (h := ?_); clear hm; intro w1 hm; (try simp only [rowOf_set, k1, k2, k3, Value.cells, Act.eval, k7, k8, k9, kA, Option.getD_some] at hm)) | (refine wlSC (hm := hm) (hi := by first | exact sizePB | exact sizeBytes) (ho := by first | decide | (simp only [rowOf_size]; omega) | (simp; done)) (h := ?_); clear hm; intro w1 hm; (try simp only [rowOf_set, k1, k2, k3, Value.cells, Act.eval, k7, k8, k9, kA, Option.getD_some] at hm)) | (refine wlA (hz := by first | exact zeroID) (hm := hm) (h := ?_); clear hm; intro b1 w1 hm; (try simp only [rowOf_set, k1, k2, k3, Value.cells, Act.eval, k7, k8, k9, kA, Option.getD_some] at hm)) | (refine wl_box (by rfl) rfl (by first | exact idV_cells _ | exact labV_cells _ _ | exact rectV_cells _ _ _ _ | rfl) hm ?_; clear hm; intro b1 w1 hm) | (with_reducible first | refine stBs ?_ | refine stMs ?_ | refine stAp ?_ | refine stCo ?_)); (try simp only [k4, k5, k6, Act.put, k1, k2, k3]))
  go_end0
  exact ⟨rfl, hm⟩
theorem check_used (b : Nat) (v : Value) (w : World) (h : w.heap[b]? = some (.cells #[.pointer (some ⟨b, 0, none⟩), v] 69 (0, 0))) :
    Calls Try.prog 72 #[.pointer (some ⟨b, 0, none⟩)] w fun e w' => e = .returned (.tuple #[]) ∧ Mem w [b] [(b, .cells #[.pointer (some ⟨b, 0, none⟩), v] 69 (0, 0))] w' := by
  go_enter Try.func72, Try.ntmps72
  have hm := Mem.start h
  obtain ⟨j, hj, hjs⟩ := Option.map_eq_some_iff.1 sizeB
  have hq : ∀ w, (binOp .neq 67 (.pointer (some ⟨b, 0, none⟩)) (.pointer (some ⟨b, 0, none⟩))).run Try.prog w = .ok (.bool false) w := fun w => Lib.run_neq_ptr_same w _ undPB hj
  clear hj hjs
  go_wp2_with ((first | refine wpList_skip (by rfl) ?_ | (refine wlL (hm := hm) (hu := by first | exact undID) (hi := by (try simp only [rowOf_size]); first | exact sizeID) (h := ?_); (try simp only [Act.put, k1, k2, k3]); (try simp only [← idV_eq])) | refine wlLC (hm := hm) (hu := by first | exact undPB | exact undBytes) (h := ?_) | (refine wlS (hm := hm) (hv := (by first | rfl | exact idV_eq _ | exact labV_eq _ _ | exact rectV_eq _ _ _ _)) (hi := by (try simp only [rowOf_size]); first | exact sizeID) (hs := by first | (simp only [rowOf_size]; done) | rfl) (h := ?_); clear hm; intro w1 hm; (try simp only [rowOf_set, k1, k2, k3, Value.cells, Act.eval, k7, k8, k9, kA, Option.getD_some] at hm)) | (refine wlSC (hm := hm) (hi := by first | exact sizePB | exact sizeBytes) (ho := by first | decide | (simp only [rowOf_size]; omega) | (simp; done)) (h := ?_); clear hm; intro w1 hm; (try simp only [rowOf_set, k1, k2, k3, Value.cells, Act.eval, k7, k8, k9, kA, Option.getD_some] at hm)) | (refine wlA (hz := by first | exact zeroID) (hm := hm) (h := ?_); clear hm; intro b1 w1 hm; (try simp only [rowOf_set, k1, k2, k3, Value.cells, Act.eval, k7, k8, k9, kA, Option.getD_some] at hm)) | (refine wl_box (by rfl) rfl (by first | exact idV_cells _ | exact labV_cells _ _ | exact rectV_cells _ _ _ _ | rfl) hm ?_; clear hm; intro b1 w1 hm) | (with_reducible first | refine stBs ?_ | refine stMs ?_ | refine stAp ?_ | refine stCo ?_)); (try simp only [k4, k5, k6, Act.put, k1, k2, k3]))
  go_end0
  exact ⟨rfl, hm⟩

/-- A row of bytes that begins with n of f's. -/
def Row (f : Nat → Nat) (n cap : Nat) (cur : Array Value) : Prop := n ≤ cap ∧ cap < 2 ^ 63 ∧ cur.size = cap ∧ ∀ j, j < n → cur[j]? = some (.int .u8 ((f j : Nat) : Int))
/-- A builder that holds n of f's bytes. -/
def Held (w0 : World) (own : List Nat) (f : Nat → Nat) (b n : Nat) (A : List (Nat × Obj)) (w : World) : Prop :=
  ∃ g cap cur, Row f n cap cur ∧ Mem w0 own ((g, .cells cur 5 (0, 0)) :: (b, .cells #[.pointer (some ⟨b, 0, none⟩), .slice (some ⟨g, 0, none⟩) n cap] 69 (0, 0)) :: A) w

theorem write_first (b : Nat) (s : ByteArray) (f : Nat → Nat) (hs : s = bytesB s.size f) (hf : ∀ j, j < s.size → f j < 256) (h0 : 0 < s.size) (h1 : s.size ≤ 1000) (w : World) (h : w.heap[b]? = some (.cells #[.pointer none, .slice none 0 0] 69 (0, 0))) :
    Calls Try.prog 52 #[.pointer (some ⟨b, 0, none⟩), .string s] w fun e w' => e = .returned (.tuple #[.int .i64 (s.size : Int), .nilIface]) ∧ Held w [b] f b s.size [] w' := by
  have HS := hid hs
  have HF := hid hf
  clear hs hf
  go_enter Try.func52, Try.ntmps52
  have hm := Mem.start h
  clear h
  go_wp2_with (with_reducible first | refine stAl ?_ | refine stBo ?_ | refine stLo ?_ | refine stSo ?_ | refine stBu ?_ | refine stBs ?_ | refine stMs ?_ | refine stAp ?_ | refine stCo ?_)
  refine (check_fresh b _ _ (hm.heap (i := 0) rfl)).mono ?_; rintro e w1 ⟨rfl, hx⟩; replace hm := Mem.callOwn (B := [_]) (A := []) hm hx; clear hx; simp only [List.cons_append, List.nil_append] at hm
  go_wp2_with ((first | refine wpList_skip (by rfl) ?_ | (refine wlL (hm := hm) (hu := by first | exact undID) (hi := by (try simp only [rowOf_size]); first | exact sizeID) (h := ?_); (try simp only [Act.put, k1, k2, k3]); (try simp only [← idV_eq])) | refine wlLC (hm := hm) (hu := by first | exact undPB | exact undBytes) (h := ?_) | (refine wlS (hm := hm) (hv := (by first | rfl | exact idV_eq _ | exact labV_eq _ _ | exact rectV_eq _ _ _ _)) (hi := by (try simp only [rowOf_size]); first | exact sizeID) (hs := by first | (simp only [rowOf_size]; done) | rfl) (h := ?_); clear hm; intro w1 hm; (try simp only [rowOf_set, k1, k2, k3, Value.cells, Act.eval, k7, k8, k9, kA, Option.getD_some] at hm)) | (refine wlSC (hm := hm) (hi := by first | exact sizePB | exact sizeBytes) (ho := by first | decide | (simp only [rowOf_size]; omega) | (simp; done)) (h := ?_); clear hm; intro w1 hm; (try simp only [rowOf_set, k1, k2, k3, Value.cells, Act.eval, k7, k8, k9, kA, Option.getD_some] at hm)) | (refine wlA (hz := by first | exact zeroID) (hm := hm) (h := ?_); clear hm; intro b1 w1 hm; (try simp only [rowOf_set, k1, k2, k3, Value.cells, Act.eval, k7, k8, k9, kA, Option.getD_some] at hm)) | (refine wl_box (by rfl) rfl (by first | exact idV_cells _ | exact labV_cells _ _ | exact rectV_cells _ _ _ _ | rfl) hm ?_; clear hm; intro b1 w1 hm) | (with_reducible first | refine stBs ?_ | refine stMs ?_ | refine stAp ?_ | refine stCo ?_)); (try simp only [k4, k5, k6, Act.put, k1, k2, k3]))
  refine Stop.go (wl_op (by rfl) fun K hK => ow_append_nil_str hm elByte undStr rfl rfl h0 (by omega) ?_)
  intro g cap cur w2 hm' h2 h3 h4 h5; clear hm; have hm := hm'; clear hm'; refine hK _ _ ?_; clear hK K; simp only [Act.put, k1, k2, k3]
  go_wp2_with ((first | refine wpList_skip (by rfl) ?_ | (refine wlL (hm := hm) (hu := by first | exact undID) (hi := by (try simp only [rowOf_size]); first | exact sizeID) (h := ?_); (try simp only [Act.put, k1, k2, k3]); (try simp only [← idV_eq])) | refine wlLC (hm := hm) (hu := by first | exact undPB | exact undBytes) (h := ?_) | (refine wlS (hm := hm) (hv := (by first | rfl | exact idV_eq _ | exact labV_eq _ _ | exact rectV_eq _ _ _ _)) (hi := by (try simp only [rowOf_size]); first | exact sizeID) (hs := by first | (simp only [rowOf_size]; done) | rfl) (h := ?_); clear hm; intro w1 hm; (try simp only [rowOf_set, k1, k2, k3, Value.cells, Act.eval, k7, k8, k9, kA, Option.getD_some] at hm)) | (refine wlSC (hm := hm) (hi := by first | exact sizePB | exact sizeBytes) (ho := by first | decide | (simp only [rowOf_size]; omega) | (simp; done)) (h := ?_); clear hm; intro w1 hm; (try simp only [rowOf_set, k1, k2, k3, Value.cells, Act.eval, k7, k8, k9, kA, Option.getD_some] at hm)) | (refine wlA (hz := by first | exact zeroID) (hm := hm) (h := ?_); clear hm; intro b1 w1 hm; (try simp only [rowOf_set, k1, k2, k3, Value.cells, Act.eval, k7, k8, k9, kA, Option.getD_some] at hm)) | (refine wl_box (by rfl) rfl (by first | exact idV_cells _ | exact labV_cells _ _ | exact rectV_cells _ _ _ _ | rfl) hm ?_; clear hm; intro b1 w1 hm) | (with_reducible first | refine stBs ?_ | refine stMs ?_ | refine stAp ?_ | refine stCo ?_)); (try simp only [k4, k5, k6, Act.put, k1, k2, k3]))
  go_ret2
  refine ⟨rfl, g, cap, cur, ⟨h2, h3, h4, fun j hj => ?_⟩, hm⟩
  rw [h5 j hj, congrArg (fun t : ByteArray => t.data.toList[j]?) HS.out, bytesB_get hj, Option.map_some]
  simp only [UInt8.toNat_ofNat', Option.some.injEq, Value.int.injEq, true_and]
  have := HF.out j hj
  omega

/-- A row with one byte more. -/
def Grew (f : Nat → Nat) (n g : Nat) (w : World) (e : Ending) (w' : World) : Prop := ∃ g' cap' cur', e = .returned (.slice (some ⟨g', 0, none⟩) (n + 1) cap') ∧ Row f (n + 1) cap' cur' ∧ Mem w [g] [(g', .cells cur' 5 (0, 0))] w'
/-- One byte more. -/
theorem rune_onto (g n cap : Nat) (cur : Array Value) (f : Nat → Nat) (c : Nat) (hr : Row f n cap cur) (hc : c < 128) (hfc : f n = c) (hn : n < 1000) (w : World) (h : w.heap[g]? = some (.cells cur 5 (0, 0))) :
    Calls Try.prog 73 #[.slice (some ⟨g, 0, none⟩) n cap, .int .i32 (c : Int)] w (Grew f n g w) := by
  have HR := hid hr
  have HF := hid hfc
  clear hr hfc
  have f1 : IntKind.u32.wrap (c : Int) = (c : Int) := wrap_u32 (by omega) (by omega)
  have f2 : IntKind.u8.wrap (c : Int) = (c : Int) := wrap_u8 (by omega) (by omega)
  have d1 : decide ((c : Int) ≤ 127) = true := decide_eq_true (by omega)
  have d2 : (c : Int) ≤ 127 := by omega
  go_enter Try.func73, Try.ntmps73
  have hm := Mem.start h
  clear h
  go_wp2_with ((first | refine wpList_skip (by rfl) ?_ | (refine wlL (hm := hm) (hu := by first | exact undID) (hi := by (try simp only [rowOf_size]); first | exact sizeID) (h := ?_); (try simp only [Act.put, k1, k2, k3]); (try simp only [← idV_eq])) | refine wlLC (hm := hm) (hu := by first | exact undPB | exact undBytes) (h := ?_) | (refine wlS (hm := hm) (hv := (by first | rfl | exact idV_eq _ | exact labV_eq _ _ | exact rectV_eq _ _ _ _)) (hi := by (try simp only [rowOf_size]); first | exact sizeID) (hs := by first | (simp only [rowOf_size]; done) | rfl) (h := ?_); clear hm; intro w1 hm; (try simp only [rowOf_set, k1, k2, k3, Value.cells, Act.eval, k7, k8, k9, kA, Option.getD_some] at hm)) | (refine wlSC (hm := hm) (hi := by first | exact sizePB | exact sizeBytes) (ho := by first | decide | (simp only [rowOf_size]; omega) | (simp; done)) (h := ?_); clear hm; intro w1 hm; (try simp only [rowOf_set, k1, k2, k3, Value.cells, Act.eval, k7, k8, k9, kA, Option.getD_some] at hm)) | (refine wlA (hz := by first | exact zeroID) (hm := hm) (h := ?_); clear hm; intro b1 w1 hm; (try simp only [rowOf_set, k1, k2, k3, Value.cells, Act.eval, k7, k8, k9, kA, Option.getD_some] at hm)) | (refine wl_box (by rfl) rfl (by first | exact idV_cells _ | exact labV_cells _ _ | exact rectV_cells _ _ _ _ | rfl) hm ?_; clear hm; intro b1 w1 hm) | (with_reducible first | refine stBs ?_ | refine stMs ?_ | refine stAp ?_ | refine stCo ?_)); (try simp only [k4, k5, k6, Act.put, k1, k2, k3]))
  refine Stop.go (wl_buildSlice (ps := [(0, .int .u8 (c : Int))]) (cells := #[.int .u8 (c : Int)]) (by rfl) hm elByte (by decide) (by decide) (by simp [Act.eval]) (fill_one _ _ rfl) ?_)
  clear hm; intro gn w2 hm; simp only [Act.put, k1, k2, k3]
  go_wp2_with ((first | refine wpList_skip (by rfl) ?_ | (refine wlL (hm := hm) (hu := by first | exact undID) (hi := by (try simp only [rowOf_size]); first | exact sizeID) (h := ?_); (try simp only [Act.put, k1, k2, k3]); (try simp only [← idV_eq])) | refine wlLC (hm := hm) (hu := by first | exact undPB | exact undBytes) (h := ?_) | (refine wlS (hm := hm) (hv := (by first | rfl | exact idV_eq _ | exact labV_eq _ _ | exact rectV_eq _ _ _ _)) (hi := by (try simp only [rowOf_size]); first | exact sizeID) (hs := by first | (simp only [rowOf_size]; done) | rfl) (h := ?_); clear hm; intro w1 hm; (try simp only [rowOf_set, k1, k2, k3, Value.cells, Act.eval, k7, k8, k9, kA, Option.getD_some] at hm)) | (refine wlSC (hm := hm) (hi := by first | exact sizePB | exact sizeBytes) (ho := by first | decide | (simp only [rowOf_size]; omega) | (simp; done)) (h := ?_); clear hm; intro w1 hm; (try simp only [rowOf_set, k1, k2, k3, Value.cells, Act.eval, k7, k8, k9, kA, Option.getD_some] at hm)) | (refine wlA (hz := by first | exact zeroID) (hm := hm) (h := ?_); clear hm; intro b1 w1 hm; (try simp only [rowOf_set, k1, k2, k3, Value.cells, Act.eval, k7, k8, k9, kA, Option.getD_some] at hm)) | (refine wl_box (by rfl) rfl (by first | exact idV_cells _ | exact labV_cells _ _ | exact rectV_cells _ _ _ _ | rfl) hm ?_; clear hm; intro b1 w1 hm) | (with_reducible first | refine stBs ?_ | refine stMs ?_ | refine stAp ?_ | refine stCo ?_)); (try simp only [k4, k5, k6, Act.put, k1, k2, k3]))
  have hnw := news_of (i := 0) hm rfl
  refine Stop.go (wl_op (by rfl) fun K hK => ow_append (i := 1) (n := n) (m := 1) (c := 1) (news := [.int .u8 (c : Int)]) (ad := ⟨gn, 0, none⟩) (sz := 1) (cur := cur) (g := g) hm elByte ?h1 ?h2 ?h3 ?h4 HR.out.1 ?h5 ?h6 hnw ?h7 ?h8 ?h9 ?h10)
  case h1 => rfl
  case h2 => rfl
  case h3 => rfl
  case h4 => rfl
  case h5 => have := HR.out.2.2.1; omega
  case h6 => rfl
  case h7 => simp [Value.oneCell']
  case h8 => omega
  case h9 => omega
  intro g' cap' cur' w3 hm' p1 p2 p3 p4 p5 p6; clear hm; have hm := hm'; clear hm'; refine hK _ _ ?_; clear hK K; simp only [Act.put, k1, k2, k3]
  go_wp2_with ((first | refine wpList_skip (by rfl) ?_ | (refine wlL (hm := hm) (hu := by first | exact undID) (hi := by (try simp only [rowOf_size]); first | exact sizeID) (h := ?_); (try simp only [Act.put, k1, k2, k3]); (try simp only [← idV_eq])) | refine wlLC (hm := hm) (hu := by first | exact undPB | exact undBytes) (h := ?_) | (refine wlS (hm := hm) (hv := (by first | rfl | exact idV_eq _ | exact labV_eq _ _ | exact rectV_eq _ _ _ _)) (hi := by (try simp only [rowOf_size]); first | exact sizeID) (hs := by first | (simp only [rowOf_size]; done) | rfl) (h := ?_); clear hm; intro w1 hm; (try simp only [rowOf_set, k1, k2, k3, Value.cells, Act.eval, k7, k8, k9, kA, Option.getD_some] at hm)) | (refine wlSC (hm := hm) (hi := by first | exact sizePB | exact sizeBytes) (ho := by first | decide | (simp only [rowOf_size]; omega) | (simp; done)) (h := ?_); clear hm; intro w1 hm; (try simp only [rowOf_set, k1, k2, k3, Value.cells, Act.eval, k7, k8, k9, kA, Option.getD_some] at hm)) | (refine wlA (hz := by first | exact zeroID) (hm := hm) (h := ?_); clear hm; intro b1 w1 hm; (try simp only [rowOf_set, k1, k2, k3, Value.cells, Act.eval, k7, k8, k9, kA, Option.getD_some] at hm)) | (refine wl_box (by rfl) rfl (by first | exact idV_cells _ | exact labV_cells _ _ | exact rectV_cells _ _ _ _ | rfl) hm ?_; clear hm; intro b1 w1 hm) | (with_reducible first | refine stBs ?_ | refine stMs ?_ | refine stAp ?_ | refine stCo ?_)); (try simp only [k4, k5, k6, Act.put, k1, k2, k3]))
  go_ret
  refine ⟨g', cap', cur', rfl, ⟨p1, p2 HR.out.2.1, by omega, fun j hj => ?_⟩, hm.tail⟩
  by_cases hjn : j < n
  · rw [p4 j (by omega)]; exact HR.out.2.2.2 j hjn
  · obtain rfl : j = n := by omega
    have := p5 0 (by omega)
    rw [Nat.mul_one, Nat.add_zero] at this
    rw [this, HF.out]; rfl

theorem write_rune (b n : Nat) (f : Nat → Nat) (c : Nat) (hc : c < 128) (hfc : f n = c) (hn : n < 1000) (g cap : Nat) (cur : Array Value) (hr : Row f n cap cur) (hgb : g ≠ b) (w : World) (hg : w.heap[g]? = some (.cells cur 5 (0, 0)))
    (hb : w.heap[b]? = some (.cells #[.pointer (some ⟨b, 0, none⟩), .slice (some ⟨g, 0, none⟩) n cap] 69 (0, 0))) :
    Calls Try.prog 54 #[.pointer (some ⟨b, 0, none⟩), .int .i32 (c : Int)] w fun e w' => e = .returned (.tuple #[.int .i64 1, .nilIface]) ∧ ∃ g' cap' cur', Row f (n + 1) cap' cur' ∧ Mem w [g, b] [(g', .cells cur' 5 (0, 0)), (b, .cells #[.pointer (some ⟨b, 0, none⟩), .slice (some ⟨g', 0, none⟩) (n + 1) cap'] 69 (0, 0))] w' := by
  have HR := hid hr
  have HF := hid hfc
  clear hr hfc
  have f1 : IntKind.i64.wrap ((n : Int) + 1 - (n : Int)) = 1 := by rw [wrap_i64 (by omega) (by omega)]; omega
  go_enter Try.func54, Try.ntmps54
  have hm := Mem.start2 hg hb hgb
  clear hg hb
  go_wp2_with (with_reducible first | refine stAl ?_ | refine stBo ?_ | refine stLo ?_ | refine stSo ?_ | refine stBu ?_ | refine stBs ?_ | refine stMs ?_ | refine stAp ?_ | refine stCo ?_)
  refine (check_used b _ _ (hm.heap (i := 1) rfl)).mono ?_; rintro e w1 ⟨rfl, hx⟩; replace hm := hm.callOn (i := 1) rfl hx; clear hx; simp only [rowOf_set, k1, k2, k3, Value.cells, Act.eval, k7, k8, k9, kA, Option.getD_some] at hm
  go_wp2_with ((first | refine wpList_skip (by rfl) ?_ | (refine wlL (hm := hm) (hu := by first | exact undID) (hi := by (try simp only [rowOf_size]); first | exact sizeID) (h := ?_); (try simp only [Act.put, k1, k2, k3]); (try simp only [← idV_eq])) | refine wlLC (hm := hm) (hu := by first | exact undPB | exact undBytes) (h := ?_) | (refine wlS (hm := hm) (hv := (by first | rfl | exact idV_eq _ | exact labV_eq _ _ | exact rectV_eq _ _ _ _)) (hi := by (try simp only [rowOf_size]); first | exact sizeID) (hs := by first | (simp only [rowOf_size]; done) | rfl) (h := ?_); clear hm; intro w1 hm; (try simp only [rowOf_set, k1, k2, k3, Value.cells, Act.eval, k7, k8, k9, kA, Option.getD_some] at hm)) | (refine wlSC (hm := hm) (hi := by first | exact sizePB | exact sizeBytes) (ho := by first | decide | (simp only [rowOf_size]; omega) | (simp; done)) (h := ?_); clear hm; intro w1 hm; (try simp only [rowOf_set, k1, k2, k3, Value.cells, Act.eval, k7, k8, k9, kA, Option.getD_some] at hm)) | (refine wlA (hz := by first | exact zeroID) (hm := hm) (h := ?_); clear hm; intro b1 w1 hm; (try simp only [rowOf_set, k1, k2, k3, Value.cells, Act.eval, k7, k8, k9, kA, Option.getD_some] at hm)) | (refine wl_box (by rfl) rfl (by first | exact idV_cells _ | exact labV_cells _ _ | exact rectV_cells _ _ _ _ | rfl) hm ?_; clear hm; intro b1 w1 hm) | (with_reducible first | refine stBs ?_ | refine stMs ?_ | refine stAp ?_ | refine stCo ?_)); (try simp only [k4, k5, k6, Act.put, k1, k2, k3]))
  refine (rune_onto g n cap cur f c HR.out hc HF.out hn _ (hm.heap (i := 0) rfl)).mono ?_; rintro e w2 ⟨g', cap', cur', rfl, hr', hx⟩; have HR' := hid hr'; clear hr'; replace hm := Mem.callOwn (B := [_]) (A := [_]) hm hx; clear hx; simp only [List.cons_append, List.nil_append] at hm
  go_wp2_with ((first | refine wpList_skip (by rfl) ?_ | (refine wlL (hm := hm) (hu := by first | exact undID) (hi := by (try simp only [rowOf_size]); first | exact sizeID) (h := ?_); (try simp only [Act.put, k1, k2, k3]); (try simp only [← idV_eq])) | refine wlLC (hm := hm) (hu := by first | exact undPB | exact undBytes) (h := ?_) | (refine wlS (hm := hm) (hv := (by first | rfl | exact idV_eq _ | exact labV_eq _ _ | exact rectV_eq _ _ _ _)) (hi := by (try simp only [rowOf_size]); first | exact sizeID) (hs := by first | (simp only [rowOf_size]; done) | rfl) (h := ?_); clear hm; intro w1 hm; (try simp only [rowOf_set, k1, k2, k3, Value.cells, Act.eval, k7, k8, k9, kA, Option.getD_some] at hm)) | (refine wlSC (hm := hm) (hi := by first | exact sizePB | exact sizeBytes) (ho := by first | decide | (simp only [rowOf_size]; omega) | (simp; done)) (h := ?_); clear hm; intro w1 hm; (try simp only [rowOf_set, k1, k2, k3, Value.cells, Act.eval, k7, k8, k9, kA, Option.getD_some] at hm)) | (refine wlA (hz := by first | exact zeroID) (hm := hm) (h := ?_); clear hm; intro b1 w1 hm; (try simp only [rowOf_set, k1, k2, k3, Value.cells, Act.eval, k7, k8, k9, kA, Option.getD_some] at hm)) | (refine wl_box (by rfl) rfl (by first | exact idV_cells _ | exact labV_cells _ _ | exact rectV_cells _ _ _ _ | rfl) hm ?_; clear hm; intro b1 w1 hm) | (with_reducible first | refine stBs ?_ | refine stMs ?_ | refine stAp ?_ | refine stCo ?_)); (try simp only [k4, k5, k6, Act.put, k1, k2, k3]))
  go_ret2
  exact ⟨rfl, g', cap', cur', HR'.out, hm⟩

/-- What a builder that holds some bytes says. -/
theorem string_of (w0 : World) (f : Nat → Nat) (hf : ∀ j, f j < 256) (b n : Nat) (A : List (Nat × Obj)) (hn : n < 1000) (w : World) (h : Held w0 [] f b n A w) :
    Calls Try.prog 55 #[.pointer (some ⟨b, 0, none⟩)] w fun e w' => e = .returned (.string (bytesB n f)) ∧ Ext w0 w' := by
  obtain ⟨g, cap, cur, ⟨r1, r2, r3, r4⟩, hm⟩ := h
  have hgb : g ≠ b := hm.ne (i := 0) (j := 1) rfl rfl (by omega)
  have hB : ∀ p, p ∈ (g, Obj.cells cur 5 (0, 0)) :: (b, .cells #[.pointer (some ⟨b, 0, none⟩), .slice (some ⟨g, 0, none⟩) n cap] 69 (0, 0)) :: A → w0.heap.size ≤ p.1 := fun p hp => by
    rcases hm.may p hp with h | h
    · exact h
    · cases h
  have hgB : w0.heap.size ≤ g := hB _ (List.mem_cons_self ..)
  have hbB : w0.heap.size ≤ b := hB _ (List.mem_cons_of_mem _ (List.mem_cons_self ..))
  have hl : (Lib.byteCells ((bytesB n f).data.toList)).length = n := by rw [Lib.byteCells_length, bytesB_toList]; simp
  have ht : cur.toList.take (n * 1) = Lib.byteCells ((bytesB n f).data.toList) := by
    apply List.ext_getElem?
    intro j
    by_cases hj : j < n
    · rw [List.getElem?_take, if_pos (by omega), Array.getElem?_toList, r4 j hj]
      simp only [Lib.byteCells, List.getElem?_map, bytesB_get hj, Option.map_some, UInt8.toNat_ofNat', Option.some.injEq, Value.int.injEq, true_and]
      have := hf j
      omega
    · rw [List.getElem?_eq_none (by rw [List.length_take]; omega), List.getElem?_eq_none (by rw [hl]; omega)]
  have hIs : Lib.IsBuilderF 69 5 w0.heap.size b (Lib.byteCells ((bytesB n f).data.toList)) w := by
    refine Or.inr ⟨hbB, _, hm.heap (i := 1) rfl, ⟨by rw [hl]; omega, Or.inr ⟨g, cap, cur, (0, 0), by rw [hl], hgB, hm.heap (i := 0) rfl, by simp only; omega, by rw [hl]; exact r1, by unfold maxLen; omega, by omega, by rw [hl]; exact ht⟩⟩, ?_⟩
    simp only [Value.ownBlock, ne_eq, Option.some.injEq]
    exact hgb
  refine (Try.Builder_String_any_k w0.heap.size b ((bytesB n f).data.toList) w hIs hm.size).mono ?_
  rintro e w' ⟨rfl, _, hbe, _⟩
  refine ⟨rfl, ?_⟩
  have h0 : Ext w0 w := hm.nil
  exact ⟨hbe.os.trans h0.os, hbe.tape.trans h0.tape, hbe.output.trans h0.output, Nat.le_trans h0.size hbe.size, fun k hk _ => (hbe.block k hk).trans (h0.old k hk (by simp)), fun _ h => (List.not_mem_nil h).elim, fun _ h => (List.not_mem_nil h).elim, fun i _ _ _ h => by simp at h⟩
end Go.Proofs.Ytdlfgoiakkkilaa
