/-
  Labels, continued: Parse of any text; the document's Parse.
-/
import Derived.Test.YtdlfgoiakkkilaaLabC
import Derived.Test.YtdlfgoiakkkilaaRefB
import Derived.Test.YtdlfgoiakkkilaaShelf
import Derived.Laws.RangeAny
namespace Go.Proofs.Ytdlfgoiakkkilaa
open Go.RowKit
set_option linter.unusedSimpArgs false
set_option linter.unusedVariables false
set_option maxHeartbeats 1000000
set_option maxRecDepth 20000
attribute [local irreducible] wpQuiet wpList wpAnyH Calls

theorem cut_no (s : ByteArray) (h : Lib.hasPrefix s.data.toList [47] = false) (w : World) : Calls Try.prog 57 #[.string s, .string { data := #[47] }] w fun e w' => e = .returned (.tuple #[.string s, .bool false]) ∧ Ext w w' := by
  refine (Try.strings_CutPrefix s { data := #[47] } w).mono ?_
  rintro e w' ⟨rfl, rfl⟩
  have h' : Lib.hasPrefix s.data.toList ({ data := #[47] } : ByteArray).data.toList = false := h
  exact ⟨by rw [h', Lib.trimPrefix, h']; rfl, Ext.refl _⟩
theorem parse_no (s : ByteArray) (h : Lib.hasPrefix s.data.toList [47] = false) : Says 18 #[.string s] (.tuple #[labV 0 0, .int .i64 3]) := by
  intro w
  go_enter Try.func18, Try.ntmps18
  have hm := Mem.refl w []
  go_wp2_with ((first | refine wpList_skip (by rfl) ?_ | (refine wlL (hm := hm) (hu := by first | exact undLabel) (hi := by (try simp only [rowOf_size]); first | exact sizeLabel) (h := ?_); (try simp only [Act.put, k1, k2, k3]); (try simp only [← labV_eq])) | refine wlLC (hm := hm) (hu := by first | exact undInt | exact undU64) (h := ?_) | (refine wlS (hm := hm) (hv := (by first | rfl | exact idV_eq _ | exact labV_eq _ _ | exact rectV_eq _ _ _ _)) (hi := by (try simp only [rowOf_size]); first | exact sizeLabel) (hs := by first | (simp only [rowOf_size]; done) | rfl) (h := ?_); clear hm; intro w1 hm; (try simp only [rowOf_set, k1, k2, k3, Value.cells, Act.eval, k7, k8, k9, kA, Option.getD_some] at hm)) | (refine wlSC (hm := hm) (hi := by first | exact sizeInt | exact sizeU64) (ho := by first | decide | (simp only [rowOf_size]; omega) | (simp; done)) (h := ?_); clear hm; intro w1 hm; (try simp only [rowOf_set, k1, k2, k3, Value.cells, Act.eval, k7, k8, k9, kA, Option.getD_some] at hm)) | (refine wlA (hz := by first | exact zeroLabel) (hm := hm) (h := ?_); clear hm; intro b1 w1 hm; (try simp only [rowOf_set, k1, k2, k3, Value.cells, Act.eval, k7, k8, k9, kA, Option.getD_some] at hm)) | (refine wl_box (by rfl) rfl (by first | exact idV_cells _ | exact labV_cells _ _ | exact rectV_cells _ _ _ _ | rfl) hm ?_; clear hm; intro b1 w1 hm) | (refine wl_build (by rfl) (built_zeroL) rfl ?_; (try simp only [Act.put, k1, k2, k3]); (try simp only [← labV_eq])) | (refine wl_build (by rfl) (built_len _) rfl ?_; (try simp only [Act.put, k1, k2, k3]); (try simp only [← labV_eq])) | (go_at_call 57; refine (cut_no _ h _).mono ?_; rintro e w1 ⟨rfl, hx⟩; replace hm := hm.call hx; clear hx)); (try simp only [k4, k5, k6, Act.put, k1, k2, k3]))
  refine bodyPost_ret (results_row_tmp (h := rfl) _ _ _ _ _ _ _ rfl (hm.heap (i := 0) rfl) undLabel rfl (by first | exact sizeLabel | (simp only [rowOf_size]; exact sizeLabel))) rfl ?_
  exact ⟨by simp only [labV_eq]; try rfl, hm.ext⟩
theorem parse_long (s t : ByteArray) (hs : s.extract 0 1 = { data := #[47] }) (ht : s.extract 1 s.size = t) (h1 : (1 : Int) ≤ (s.size : Int)) (h64 : 64 < t.size) : Says 18 #[.string s] (.tuple #[labV 0 0, .int .i64 3]) := by
  intro w
  have d0 : decide ((64 : Int) < (t.size : Int)) = true := decide_eq_true (by omega)
  go_enter Try.func18, Try.ntmps18
  have hm := Mem.refl w []
  go_wp2_with ((first | refine wpList_skip (by rfl) ?_ | (refine wlL (hm := hm) (hu := by first | exact undLabel) (hi := by (try simp only [rowOf_size]); first | exact sizeLabel) (h := ?_); (try simp only [Act.put, k1, k2, k3]); (try simp only [← labV_eq])) | refine wlLC (hm := hm) (hu := by first | exact undInt | exact undU64) (h := ?_) | (refine wlS (hm := hm) (hv := (by first | rfl | exact idV_eq _ | exact labV_eq _ _ | exact rectV_eq _ _ _ _)) (hi := by (try simp only [rowOf_size]); first | exact sizeLabel) (hs := by first | (simp only [rowOf_size]; done) | rfl) (h := ?_); clear hm; intro w1 hm; (try simp only [rowOf_set, k1, k2, k3, Value.cells, Act.eval, k7, k8, k9, kA, Option.getD_some] at hm)) | (refine wlSC (hm := hm) (hi := by first | exact sizeInt | exact sizeU64) (ho := by first | decide | (simp only [rowOf_size]; omega) | (simp; done)) (h := ?_); clear hm; intro w1 hm; (try simp only [rowOf_set, k1, k2, k3, Value.cells, Act.eval, k7, k8, k9, kA, Option.getD_some] at hm)) | (refine wlA (hz := by first | exact zeroLabel) (hm := hm) (h := ?_); clear hm; intro b1 w1 hm; (try simp only [rowOf_set, k1, k2, k3, Value.cells, Act.eval, k7, k8, k9, kA, Option.getD_some] at hm)) | (refine wl_box (by rfl) rfl (by first | exact idV_cells _ | exact labV_cells _ _ | exact rectV_cells _ _ _ _ | rfl) hm ?_; clear hm; intro b1 w1 hm) | (refine wl_build (by rfl) (built_zeroL) rfl ?_; (try simp only [Act.put, k1, k2, k3]); (try simp only [← labV_eq])) | (refine wl_build (by rfl) (built_len _) rfl ?_; (try simp only [Act.put, k1, k2, k3]); (try simp only [← labV_eq])) | (go_at_call 57; refine (cut_c _ _ hs ht h1 _).mono ?_; rintro e w1 ⟨rfl, hx⟩; replace hm := hm.call hx; clear hx)); (try simp only [k4, k5, k6, Act.put, k1, k2, k3]))
  refine bodyPost_ret (results_row_tmp (h := rfl) _ _ _ _ _ _ _ rfl (hm.heap (i := 0) rfl) undLabel rfl (by first | exact sizeLabel | (simp only [rowOf_size]; exact sizeLabel))) rfl ?_
  exact ⟨by simp only [labV_eq]; try rfl, hm.ext⟩

section
variable {P : Program} {ops : Array Oper} {Q : Exit → Act → World → Prop} {rest : List Oper} {a : Act} {w0 w : World} {own : List Nat} {L : List (Nat × Obj)}
  {dst : Option Tmp} {ty : TypeId} {pos : String} {aft : Array Edge} {gd : Option (Nat × Bool)}
theorem run_next_mem2 {s : ByteArray} {i b p : Nat} (hm : Mem w0 own L w) (hL : L[i]? = some (b, .stringIter s p)) (hp : p < s.size) (ty : TypeId) :
    (Instr.next (.pointer (some ⟨b, 0, none⟩)) true ty).run P w = .ok (.tuple #[.bool true, .int .i64 (p : Int), .int .i32 (((Utf8.decode s p).1 : Nat) : Int)]) { w with heap := w.heap.setIfInBounds b (.stringIter s (p + (Utf8.decode s p).2)) } := by
  have hb := hm.heap hL
  simp only [Instr.next, getObj, setObj, Sem.run_bind, Sem.run, hb, Result.andThen, hp, if_true]
  simp [goInt, Sem.run, hb]
theorem wl_nextAny {x : Operand} {s : ByteArray} {i b p : Nat} (hw : Region.wanted ⟨dst, .next x true, ty, pos, aft, gd⟩ (yielded ops a.tmps) = true) (hm : Mem w0 own L w)
    (hL : L[i]? = some (b, .stringIter s p)) (hx : a.eval x = .pointer (some ⟨b, 0, none⟩)) (hp : p < s.size) (r : Nat) (hr : (Utf8.decode s p).1 = r)
    (h : ∀ q w', Mem w0 own (L.set i (b, .stringIter s q)) w' → wpList P ops Q rest (a.put dst (.tuple #[.bool true, .int .i64 (p : Int), .int .i32 (r : Int)])) w') : wpList P ops Q (⟨dst, .next x true, ty, pos, aft, gd⟩ :: rest) a w :=
  wl_op hw fun K hK => by
    subst hr
    unfold Oper.wp execOp
    simp only [hx, Sem.run_bind, Sem.run_pure, Result.andThen_ok, run_next_mem2 hm hL hp, Oper.upon]
    exact hK _ _ (h _ _ (hm.setIter hL _))
end

theorem decode_off (s : ByteArray) (p c : Nat) (h : p < s.size) (hc : (s[p]'h).toNat = c) (h1 : c ≠ 48) (h2 : c ≠ 49) : (Utf8.decode s p).1 ≠ 48 ∧ (Utf8.decode s p).1 ≠ 49 := by
  by_cases h128 : (s[p]'h).toNat < 128
  · rw [decode_ascii s p h h128]
    simp only [hc]
    exact ⟨h1, h2⟩
  · have := (decode_high s p h (by omega)).1
    omega

theorem parse_bad (s t : ByteArray) (f : Nat → Nat) (p : Nat) (hs : s.extract 0 1 = { data := #[47] }) (ht : s.extract 1 s.size = t) (h1 : (1 : Int) ≤ (s.size : Int)) (h64 : t.size ≤ 64) (hp : p < t.size)
    (hf : ∀ j (h : j < t.size), (t[j]'h).toNat = f j) (hd : ∀ j, j < p → f j = 48 ∨ f j = 49) (hbad : f p ≠ 48 ∧ f p ≠ 49) : Says 18 #[.string s] (.tuple #[labV 0 0, .int .i64 3]) := by
  intro w
  have d0 : decide ((64 : Int) < (t.size : Int)) = false := decide_eq_false (by omega)
  have d1 : ¬ ((64 : Int) < (t.size : Int)) := by omega
  have d2 : ¬ (64 < t.size) := by omega
  have HF := hid hf
  have HD := hid hd
  have HB := hid (decode_off t p (f p) hp (hf p hp) hbad.1 hbad.2)
  clear hf hd hbad
  go_enter Try.func18, Try.ntmps18
  have hm := Mem.refl w []
  go_wp2_with (with_reducible first | refine stAl ?_ | refine stBo ?_ | refine stLo ?_ | refine stSo ?_ | refine stBu ?_ | refine stBs ?_ | refine stMs ?_ | refine stAp ?_ | refine stCo ?_ | (show wpList _ _ _ (⟨_, .range _ _, _, _, _, _⟩ :: _) _ _; refine Stop.mk ?_)  | (show wpList _ _ _ (⟨_, .next _ _, _, _, _, _⟩ :: _) _ _; refine Stop.mk ?_)); refine Stop.go (wl_alloc (by rfl) zeroLabel rfl hm ?_); clear hm; intro b1 w1 hm; simp only [Act.put, k1, k2, k3]; (try simp only [rowOf_set, k1, k2, k3, Value.cells, Act.eval, k7, k8, k9, kA, Option.getD_some] at hm)
  go_wp2_with (with_reducible first | refine stAl ?_ | refine stBo ?_ | refine stLo ?_ | refine stSo ?_ | refine stBu ?_ | refine stBs ?_ | refine stMs ?_ | refine stAp ?_ | refine stCo ?_ | (show wpList _ _ _ (⟨_, .range _ _, _, _, _, _⟩ :: _) _ _; refine Stop.mk ?_)  | (show wpList _ _ _ (⟨_, .next _ _, _, _, _, _⟩ :: _) _ _; refine Stop.mk ?_)); refine (cut_c _ _ hs ht h1 _).mono ?_; rintro e w2 ⟨rfl, hx⟩; replace hm := hm.call hx; clear hx
  go_wp2_with (with_reducible first | refine stAl ?_ | refine stBo ?_ | refine stLo ?_ | refine stSo ?_ | refine stBu ?_ | refine stBs ?_ | refine stMs ?_ | refine stAp ?_ | refine stCo ?_ | (show wpList _ _ _ (⟨_, .range _ _, _, _, _, _⟩ :: _) _ _; refine Stop.mk ?_)  | (show wpList _ _ _ (⟨_, .next _ _, _, _, _, _⟩ :: _) _ _; refine Stop.mk ?_)); refine Stop.go (wl_build (by rfl) (built_len (t.size : Int)) (by simp [Act.eval]) ?_); simp only [Act.put, k1, k2, k3]
  go_wp2_with (with_reducible first | refine stAl ?_ | refine stBo ?_ | refine stLo ?_ | refine stSo ?_ | refine stBu ?_ | refine stBs ?_ | refine stMs ?_ | refine stAp ?_ | refine stCo ?_ | (show wpList _ _ _ (⟨_, .range _ _, _, _, _, _⟩ :: _) _ _; refine Stop.mk ?_)  | (show wpList _ _ _ (⟨_, .next _ _, _, _, _, _⟩ :: _) _ _; refine Stop.mk ?_)); refine Stop.go (wl_alloc (by rfl) zeroLabel rfl hm ?_); clear hm; intro b2 w3 hm; simp only [Act.put, k1, k2, k3]; (try simp only [rowOf_set, k1, k2, k3, Value.cells, Act.eval, k7, k8, k9, kA, Option.getD_some] at hm)
  go_wp2_with (with_reducible first | refine stAl ?_ | refine stBo ?_ | refine stLo ?_ | refine stSo ?_ | refine stBu ?_ | refine stBs ?_ | refine stMs ?_ | refine stAp ?_ | refine stCo ?_ | (show wpList _ _ _ (⟨_, .range _ _, _, _, _, _⟩ :: _) _ _; refine Stop.mk ?_)  | (show wpList _ _ _ (⟨_, .next _ _, _, _, _, _⟩ :: _) _ _; refine Stop.mk ?_))
  refine Stop.go (wl_store (i := 0) (by rfl) hm rfl rfl rfl rfl sizeLabel rfl (by first | rfl | (simp only [List.size_toArray, List.length_cons, List.all_toArray', List.all_cons, List.all_nil, Value.oneCell', Bool.and_true, Bool.and_self]; done) | (simp [Value.oneCell']; done) | exact rowOf_one _ _ (fun _ _ => rfl) | exact idC_one _ | (exact rowOf_one _ _ (by intro i _; repeat (first | rfl | split)))) ?_); clear hm; intro w4 hm; simp only [Act.put, k1, k2, k3]; (try simp only [rowOf_set, k1, k2, k3, Value.cells, Act.eval, k7, k8, k9, kA, Option.getD_some] at hm)
  go_wp2_with (with_reducible first | refine stAl ?_ | refine stBo ?_ | refine stLo ?_ | refine stSo ?_ | refine stBu ?_ | refine stBs ?_ | refine stMs ?_ | refine stAp ?_ | refine stCo ?_ | (show wpList _ _ _ (⟨_, .range _ _, _, _, _, _⟩ :: _) _ _; refine Stop.mk ?_)  | (show wpList _ _ _ (⟨_, .next _ _, _, _, _, _⟩ :: _) _ _; refine Stop.mk ?_))
  refine Stop.go (wl_range (by rfl) hm undString rfl ?_); clear hm; intro b3 w5 hm; simp only [Act.put, k1, k2, k3]
  go_wp2_with (with_reducible first | refine stAl ?_ | refine stBo ?_ | refine stLo ?_ | refine stSo ?_ | refine stBu ?_ | refine stBs ?_ | refine stMs ?_ | refine stAp ?_ | refine stCo ?_ | (show wpList _ _ _ (⟨_, .range _ _, _, _, _, _⟩ :: _) _ _; refine Stop.mk ?_)  | (show wpList _ _ _ (⟨_, .next _ _, _, _, _, _⟩ :: _) _ _; refine Stop.mk ?_))
  go_loopw [6] (fun _ wr => ∃ k : Nat, k ≤ p ∧ Mem w [] [(b3, .stringIter t k), (b2, .cells #[.int .i64 (t.size : Int), .int .u64 ((accB f k : Nat) : Int)] 24), (b1, .cells #[.int .i64 0, .int .u64 0] 24)] wr)
    (fun _ wr => t.size - wr.iterPos b3)
  case atStart => exact ⟨0, by omega, hm⟩
  case round =>
    clear hm
    obtain ⟨k, hk, hm⟩ := hrel
    have hit0 := hid (iterPos_of' (hm.heap (i := 0) rfl))
    by_cases hkp : k < p
    · have h0 : k < t.size := by omega
      have h63 : k < 64 := by omega
      have hfk := HF.out k h0
      have hdk := HD.out k hkp
      obtain ⟨hB0, hB1⟩ := accB_ok f k (by omega)
      have HS := hid (show accB f (k + 1) = if f k = 49 then kid (accB f k) k else accB f k from rfl)
      obtain ⟨c, hc⟩ : ∃ c, f k = c := ⟨_, rfl⟩
      rw [hc] at hfk hdk HS
      clear hc
      obtain ⟨b, hb⟩ : ∃ b, accB f k = b := ⟨_, rfl⟩
      rw [hb] at hm hB0 hB1 HS
      clear hb
      rcases hdk with rfl | rfl
      · go_wp2_with (with_reducible first | refine stAl ?_ | refine stBo ?_ | refine stLo ?_ | refine stSo ?_ | refine stBu ?_ | refine stBs ?_ | refine stMs ?_ | refine stAp ?_ | refine stCo ?_ | (show wpList _ _ _ (⟨_, .range _ _, _, _, _, _⟩ :: _) _ _; refine Stop.mk ?_)  | (show wpList _ _ _ (⟨_, .next _ _, _, _, _, _⟩ :: _) _ _; refine Stop.mk ?_))
        refine Stop.go (wl_next (i := 0) (by rfl) hm rfl rfl h0 hfk (by decide) ?_); clear hm; intro w6 hm; simp only [Act.put, k1, k2, k3]; (try simp only [rowOf_set, k1, k2, k3, Value.cells, Act.eval, k7, k8, k9, kA, Option.getD_some] at hm)
        go_wp2_with ((first | refine wpList_skip (by rfl) ?_ | (refine wlL (hm := hm) (hu := by first | exact undLabel) (hi := by (try simp only [rowOf_size]); first | exact sizeLabel) (h := ?_); (try simp only [Act.put, k1, k2, k3]); (try simp only [← labV_eq])) | refine wlLC (hm := hm) (hu := by first | exact undInt | exact undU64) (h := ?_) | (refine wlS (hm := hm) (hv := (by first | rfl | exact idV_eq _ | exact labV_eq _ _ | exact rectV_eq _ _ _ _)) (hi := by (try simp only [rowOf_size]); first | exact sizeLabel) (hs := by first | (simp only [rowOf_size]; done) | rfl) (h := ?_); clear hm; intro w1 hm; (try simp only [rowOf_set, k1, k2, k3, Value.cells, Act.eval, k7, k8, k9, kA, Option.getD_some] at hm)) | (refine wlSC (hm := hm) (hi := by first | exact sizeInt | exact sizeU64) (ho := by first | decide | (simp only [rowOf_size]; omega) | (simp; done)) (h := ?_); clear hm; intro w1 hm; (try simp only [rowOf_set, k1, k2, k3, Value.cells, Act.eval, k7, k8, k9, kA, Option.getD_some] at hm)) | (refine wlA (hz := by first | exact zeroLabel) (hm := hm) (h := ?_); clear hm; intro b1 w1 hm; (try simp only [rowOf_set, k1, k2, k3, Value.cells, Act.eval, k7, k8, k9, kA, Option.getD_some] at hm)) | (refine wl_box (by rfl) rfl (by first | exact idV_cells _ | exact labV_cells _ _ | exact rectV_cells _ _ _ _ | rfl) hm ?_; clear hm; intro b1 w1 hm) | (refine wl_build (by rfl) (built_zeroL) rfl ?_; (try simp only [Act.put, k1, k2, k3]); (try simp only [← labV_eq])) | (refine wl_build (by rfl) (built_len _) rfl ?_; (try simp only [Act.put, k1, k2, k3]); (try simp only [← labV_eq])) | (go_at_call 53; refine (bit_c _ h63 _).mono ?_; rintro e w1 ⟨rfl, hx⟩; replace hm := hm.call hx; clear hx)); (try simp only [k4, k5, k6, Act.put, k1, k2, k3]))
        go_roundw
        case rel => exact ⟨k + 1, by omega, by rw [HS.out, if_neg (by decide)]; exact hm⟩
        case measure => rw [iterPos_of' (hm.heap (i := 0) rfl), hit0.out]; omega
      · have o1 : bits .or .u64 (b : Int) (2 ^ (63 - k)) = ((kid b k : Nat) : Int) := by
          have hp := pow64_lt (63 - k) (by omega)
          rw [show (2 : Int) ^ (63 - k) = ((2 ^ (63 - k) : Nat) : Int) from by norm_cast, u64_or_nat _ _ hB1 (by omega), or_bit _ _ hB0 h63, kid_eq]
        go_wp2_with (with_reducible first | refine stAl ?_ | refine stBo ?_ | refine stLo ?_ | refine stSo ?_ | refine stBu ?_ | refine stBs ?_ | refine stMs ?_ | refine stAp ?_ | refine stCo ?_ | (show wpList _ _ _ (⟨_, .range _ _, _, _, _, _⟩ :: _) _ _; refine Stop.mk ?_)  | (show wpList _ _ _ (⟨_, .next _ _, _, _, _, _⟩ :: _) _ _; refine Stop.mk ?_))
        refine Stop.go (wl_next (i := 0) (by rfl) hm rfl rfl h0 hfk (by decide) ?_); clear hm; intro w6 hm; simp only [Act.put, k1, k2, k3]; (try simp only [rowOf_set, k1, k2, k3, Value.cells, Act.eval, k7, k8, k9, kA, Option.getD_some] at hm)
        go_wp2_with (with_reducible first | refine stAl ?_ | refine stBo ?_ | refine stLo ?_ | refine stSo ?_ | refine stBu ?_ | refine stBs ?_ | refine stMs ?_ | refine stAp ?_ | refine stCo ?_ | (show wpList _ _ _ (⟨_, .range _ _, _, _, _, _⟩ :: _) _ _; refine Stop.mk ?_)  | (show wpList _ _ _ (⟨_, .next _ _, _, _, _, _⟩ :: _) _ _; refine Stop.mk ?_)); refine wp_quiet_last 6 (by kernel_rfl) rfl (by kernel_rfl) (by kernel_rfl) hm ?_; simp only [List.take_succ_cons, List.take_zero, List.cons_append, List.nil_append, hush]
        repeat ((first | refine wq_skip (by rfl) ?_ | (refine wqL (hu := by first | exact undLabel) (hi := by (try simp only [rowOf_size]); first | exact sizeLabel) (h := ?_); (try simp only [Act.put, k1, k2, k3]); (try simp only [← labV_eq])) | refine wqLC (hu := by first | exact undInt | exact undU64) (h := ?_) | ((with_reducible show wpQuiet _ _ _ _ (⟨_, .call _, _, _, _, _⟩ :: _) _); refine wq_ask (by rfl) ?_; apply Exists.intro; refine ⟨?_, ?_⟩; (focus (intro w hC; go_simp; first | (go_at_call 53; exact (bit_c _ h63 _).mono fun e w' h => ⟨h.1, hC.call h.2⟩)))) | (refine wq_build (by rfl) (built_zeroL) rfl ?_; (try simp only [Act.put, k1, k2, k3]); (try simp only [← labV_eq])) | (refine wq_build (by rfl) (built_len _) rfl ?_; (try simp only [Act.put, k1, k2, k3]); (try simp only [← labV_eq])) | refine wqS (h := ?_)); (try simp only [k4, k5, k6, Act.put, k1, k2, k3]))
        refine wpQuiet_nil ?_; clear hm; intro w7 hm
        go_wp2_with ((first | refine wpList_skip (by rfl) ?_ | (refine wlL (hm := hm) (hu := by first | exact undLabel) (hi := by (try simp only [rowOf_size]); first | exact sizeLabel) (h := ?_); (try simp only [Act.put, k1, k2, k3]); (try simp only [← labV_eq])) | refine wlLC (hm := hm) (hu := by first | exact undInt | exact undU64) (h := ?_) | (refine wlS (hm := hm) (hv := (by first | rfl | exact idV_eq _ | exact labV_eq _ _ | exact rectV_eq _ _ _ _)) (hi := by (try simp only [rowOf_size]); first | exact sizeLabel) (hs := by first | (simp only [rowOf_size]; done) | rfl) (h := ?_); clear hm; intro w1 hm; (try simp only [rowOf_set, k1, k2, k3, Value.cells, Act.eval, k7, k8, k9, kA, Option.getD_some] at hm)) | (refine wlSC (hm := hm) (hi := by first | exact sizeInt | exact sizeU64) (ho := by first | decide | (simp only [rowOf_size]; omega) | (simp; done)) (h := ?_); clear hm; intro w1 hm; (try simp only [rowOf_set, k1, k2, k3, Value.cells, Act.eval, k7, k8, k9, kA, Option.getD_some] at hm)) | (refine wlA (hz := by first | exact zeroLabel) (hm := hm) (h := ?_); clear hm; intro b1 w1 hm; (try simp only [rowOf_set, k1, k2, k3, Value.cells, Act.eval, k7, k8, k9, kA, Option.getD_some] at hm)) | (refine wl_box (by rfl) rfl (by first | exact idV_cells _ | exact labV_cells _ _ | exact rectV_cells _ _ _ _ | rfl) hm ?_; clear hm; intro b1 w1 hm) | (refine wl_build (by rfl) (built_zeroL) rfl ?_; (try simp only [Act.put, k1, k2, k3]); (try simp only [← labV_eq])) | (refine wl_build (by rfl) (built_len _) rfl ?_; (try simp only [Act.put, k1, k2, k3]); (try simp only [← labV_eq])) | (go_at_call 53; refine (bit_c _ h63 _).mono ?_; rintro e w1 ⟨rfl, hx⟩; replace hm := hm.call hx; clear hx)); (try simp only [k4, k5, k6, Act.put, k1, k2, k3]))
        go_roundw
        case rel => exact ⟨k + 1, by omega, by rw [HS.out]; simp only [if_true]; exact hm⟩
        case measure => rw [iterPos_of' (hm.heap (i := 0) rfl), hit0.out]; omega
    · obtain rfl : k = p := by omega
      obtain ⟨r, hr⟩ : ∃ r, (Utf8.decode t k).1 = r := ⟨_, rfl⟩
      have hb := HB.out
      rw [hr] at hb
      have c1 : ((r : Int) == 49) = false := by rw [beq_eq_false_iff_ne]; omega
      have c2 : ((r : Int) == 48) = false := by rw [beq_eq_false_iff_ne]; omega
      have h63 : True := trivial
      clear hb
      go_wp2_with (with_reducible first | refine stAl ?_ | refine stBo ?_ | refine stLo ?_ | refine stSo ?_ | refine stBu ?_ | refine stBs ?_ | refine stMs ?_ | refine stAp ?_ | refine stCo ?_ | (show wpList _ _ _ (⟨_, .range _ _, _, _, _, _⟩ :: _) _ _; refine Stop.mk ?_)  | (show wpList _ _ _ (⟨_, .next _ _, _, _, _, _⟩ :: _) _ _; refine Stop.mk ?_))
      refine Stop.go (wl_nextAny (i := 0) (by rfl) hm rfl rfl hp r hr ?_); clear hm hr; intro q w6 hm; simp only [Act.put, k1, k2, k3]; (try simp only [rowOf_set, k1, k2, k3, Value.cells, Act.eval, k7, k8, k9, kA, Option.getD_some] at hm)
      go_wp2_with ((first | refine wpList_skip (by rfl) ?_ | (refine wlL (hm := hm) (hu := by first | exact undLabel) (hi := by (try simp only [rowOf_size]); first | exact sizeLabel) (h := ?_); (try simp only [Act.put, k1, k2, k3]); (try simp only [← labV_eq])) | refine wlLC (hm := hm) (hu := by first | exact undInt | exact undU64) (h := ?_) | (refine wlS (hm := hm) (hv := (by first | rfl | exact idV_eq _ | exact labV_eq _ _ | exact rectV_eq _ _ _ _)) (hi := by (try simp only [rowOf_size]); first | exact sizeLabel) (hs := by first | (simp only [rowOf_size]; done) | rfl) (h := ?_); clear hm; intro w1 hm; (try simp only [rowOf_set, k1, k2, k3, Value.cells, Act.eval, k7, k8, k9, kA, Option.getD_some] at hm)) | (refine wlSC (hm := hm) (hi := by first | exact sizeInt | exact sizeU64) (ho := by first | decide | (simp only [rowOf_size]; omega) | (simp; done)) (h := ?_); clear hm; intro w1 hm; (try simp only [rowOf_set, k1, k2, k3, Value.cells, Act.eval, k7, k8, k9, kA, Option.getD_some] at hm)) | (refine wlA (hz := by first | exact zeroLabel) (hm := hm) (h := ?_); clear hm; intro b1 w1 hm; (try simp only [rowOf_set, k1, k2, k3, Value.cells, Act.eval, k7, k8, k9, kA, Option.getD_some] at hm)) | (refine wl_box (by rfl) rfl (by first | exact idV_cells _ | exact labV_cells _ _ | exact rectV_cells _ _ _ _ | rfl) hm ?_; clear hm; intro b1 w1 hm) | (refine wl_build (by rfl) (built_zeroL) rfl ?_; (try simp only [Act.put, k1, k2, k3]); (try simp only [← labV_eq])) | (refine wl_build (by rfl) (built_len _) rfl ?_; (try simp only [Act.put, k1, k2, k3]); (try simp only [← labV_eq]))); (try simp only [k4, k5, k6, Act.put, k1, k2, k3]))
      refine bodyPost_ret (results_row_tmp (h := rfl) _ _ _ _ _ _ _ rfl (hm.heap (i := 2) rfl) undLabel rfl (by first | exact sizeLabel | (simp only [rowOf_size]; exact sizeLabel))) rfl ?_
      exact ⟨by simp only [labV_eq]; try rfl, hm.ext⟩

/-! ### The document's -/
theorem refParse_empty (s : ByteArray) (h : s.size = 0) : Says 37 #[.string s] (.tuple #[labV 0 0, .int .i64 3]) := by
  intro w
  have h1 : (s.size : Int) = 0 := by omega
  clear h
  go_enter Try.func37, Try.ntmps37
  have hm := Mem.refl w []
  go_wp2_with ((first | refine wpList_skip (by rfl) ?_ | (refine wlL (hm := hm) (hu := by first | exact undLabel) (hi := by (try simp only [rowOf_size]); first | exact sizeLabel) (h := ?_); (try simp only [Act.put, k1, k2, k3]); (try simp only [← labV_eq])) | refine wlLC (hm := hm) (hu := by first | exact undInt | exact undU64) (h := ?_) | (refine wlS (hm := hm) (hv := (by first | rfl | exact idV_eq _ | exact labV_eq _ _ | exact rectV_eq _ _ _ _)) (hi := by (try simp only [rowOf_size]); first | exact sizeLabel) (hs := by first | (simp only [rowOf_size]; done) | rfl) (h := ?_); clear hm; intro w1 hm; (try simp only [rowOf_set, k1, k2, k3, Value.cells, Act.eval, k7, k8, k9, kA, Option.getD_some] at hm)) | (refine wlSC (hm := hm) (hi := by first | exact sizeInt | exact sizeU64) (ho := by first | decide | (simp only [rowOf_size]; omega) | (simp; done)) (h := ?_); clear hm; intro w1 hm; (try simp only [rowOf_set, k1, k2, k3, Value.cells, Act.eval, k7, k8, k9, kA, Option.getD_some] at hm)) | (refine wlA (hz := by first | exact zeroLabel) (hm := hm) (h := ?_); clear hm; intro b1 w1 hm; (try simp only [rowOf_set, k1, k2, k3, Value.cells, Act.eval, k7, k8, k9, kA, Option.getD_some] at hm)) | (refine wl_box (by rfl) rfl (by first | exact idV_cells _ | exact labV_cells _ _ | exact rectV_cells _ _ _ _ | rfl) hm ?_; clear hm; intro b1 w1 hm) | (refine wl_build (by rfl) (built_zeroL) rfl ?_; (try simp only [Act.put, k1, k2, k3]); (try simp only [← labV_eq])) | (refine wl_build (by rfl) (built_len _) rfl ?_; (try simp only [Act.put, k1, k2, k3]); (try simp only [← labV_eq]))); (try simp only [k4, k5, k6, Act.put, k1, k2, k3]))
  refine bodyPost_ret (results_row_tmp (h := rfl) _ _ _ _ _ _ _ rfl (hm.heap (i := 0) rfl) undLabel rfl (by first | exact sizeLabel | (simp only [rowOf_size]; exact sizeLabel))) rfl ?_
  exact ⟨by simp only [labV_eq]; try rfl, hm.ext⟩
theorem refParse_long (s : ByteArray) (h : 65 < s.size) : Says 37 #[.string s] (.tuple #[labV 0 0, .int .i64 3]) := by
  intro w
  have d0 : decide ((s.size : Int) < 1) = false := decide_eq_false (by omega)
  have d1 : decide ((65 : Int) < (s.size : Int)) = true := decide_eq_true (by omega)
  have d2 : ¬ s.size < 1 := by omega
  have d3 : s.size ≠ 0 := by omega
  go_enter Try.func37, Try.ntmps37
  have hm := Mem.refl w []
  go_wp2_with ((first | refine wpList_skip (by rfl) ?_ | (refine wlL (hm := hm) (hu := by first | exact undLabel) (hi := by (try simp only [rowOf_size]); first | exact sizeLabel) (h := ?_); (try simp only [Act.put, k1, k2, k3]); (try simp only [← labV_eq])) | refine wlLC (hm := hm) (hu := by first | exact undInt | exact undU64) (h := ?_) | (refine wlS (hm := hm) (hv := (by first | rfl | exact idV_eq _ | exact labV_eq _ _ | exact rectV_eq _ _ _ _)) (hi := by (try simp only [rowOf_size]); first | exact sizeLabel) (hs := by first | (simp only [rowOf_size]; done) | rfl) (h := ?_); clear hm; intro w1 hm; (try simp only [rowOf_set, k1, k2, k3, Value.cells, Act.eval, k7, k8, k9, kA, Option.getD_some] at hm)) | (refine wlSC (hm := hm) (hi := by first | exact sizeInt | exact sizeU64) (ho := by first | decide | (simp only [rowOf_size]; omega) | (simp; done)) (h := ?_); clear hm; intro w1 hm; (try simp only [rowOf_set, k1, k2, k3, Value.cells, Act.eval, k7, k8, k9, kA, Option.getD_some] at hm)) | (refine wlA (hz := by first | exact zeroLabel) (hm := hm) (h := ?_); clear hm; intro b1 w1 hm; (try simp only [rowOf_set, k1, k2, k3, Value.cells, Act.eval, k7, k8, k9, kA, Option.getD_some] at hm)) | (refine wl_box (by rfl) rfl (by first | exact idV_cells _ | exact labV_cells _ _ | exact rectV_cells _ _ _ _ | rfl) hm ?_; clear hm; intro b1 w1 hm) | (refine wl_build (by rfl) (built_zeroL) rfl ?_; (try simp only [Act.put, k1, k2, k3]); (try simp only [← labV_eq])) | (refine wl_build (by rfl) (built_len _) rfl ?_; (try simp only [Act.put, k1, k2, k3]); (try simp only [← labV_eq]))); (try simp only [k4, k5, k6, Act.put, k1, k2, k3]))
  refine bodyPost_ret (results_row_tmp (h := rfl) _ _ _ _ _ _ _ rfl (hm.heap (i := 0) rfl) undLabel rfl (by first | exact sizeLabel | (simp only [rowOf_size]; exact sizeLabel))) rfl ?_
  exact ⟨by simp only [labV_eq]; try rfl, hm.ext⟩
theorem refParse_first (s : ByteArray) (c : Nat) (h0 : 0 < s.size) (h65 : s.size ≤ 65) (hI : ∀ w, (Instr.index 9 (.string s) (.int .i64 0)).run Try.prog w = .ok (.int .u8 (c : Int)) w) (hc : c ≠ 47) : Says 37 #[.string s] (.tuple #[labV 0 0, .int .i64 3]) := by
  intro w
  have d0 : decide ((s.size : Int) < 1) = false := decide_eq_false (by omega)
  have d1 : decide ((65 : Int) < (s.size : Int)) = false := decide_eq_false (by omega)
  have d2 : ¬ s.size < 1 := by omega
  have d3 : s.size ≠ 0 := by omega
  have d4 : ((c : Int) != 47) = true := by rw [bne_iff_ne]; omega
  have d5 : ((c : Int) == 47) = false := by rw [beq_eq_false_iff_ne]; omega
  clear hc
  go_enter Try.func37, Try.ntmps37
  have hm := Mem.refl w []
  go_wp2_with ((first | refine wpList_skip (by rfl) ?_ | (refine wlL (hm := hm) (hu := by first | exact undLabel) (hi := by (try simp only [rowOf_size]); first | exact sizeLabel) (h := ?_); (try simp only [Act.put, k1, k2, k3]); (try simp only [← labV_eq])) | refine wlLC (hm := hm) (hu := by first | exact undInt | exact undU64) (h := ?_) | (refine wlS (hm := hm) (hv := (by first | rfl | exact idV_eq _ | exact labV_eq _ _ | exact rectV_eq _ _ _ _)) (hi := by (try simp only [rowOf_size]); first | exact sizeLabel) (hs := by first | (simp only [rowOf_size]; done) | rfl) (h := ?_); clear hm; intro w1 hm; (try simp only [rowOf_set, k1, k2, k3, Value.cells, Act.eval, k7, k8, k9, kA, Option.getD_some] at hm)) | (refine wlSC (hm := hm) (hi := by first | exact sizeInt | exact sizeU64) (ho := by first | decide | (simp only [rowOf_size]; omega) | (simp; done)) (h := ?_); clear hm; intro w1 hm; (try simp only [rowOf_set, k1, k2, k3, Value.cells, Act.eval, k7, k8, k9, kA, Option.getD_some] at hm)) | (refine wlA (hz := by first | exact zeroLabel) (hm := hm) (h := ?_); clear hm; intro b1 w1 hm; (try simp only [rowOf_set, k1, k2, k3, Value.cells, Act.eval, k7, k8, k9, kA, Option.getD_some] at hm)) | (refine wl_box (by rfl) rfl (by first | exact idV_cells _ | exact labV_cells _ _ | exact rectV_cells _ _ _ _ | rfl) hm ?_; clear hm; intro b1 w1 hm) | (refine wl_build (by rfl) (built_zeroL) rfl ?_; (try simp only [Act.put, k1, k2, k3]); (try simp only [← labV_eq])) | (refine wl_build (by rfl) (built_len _) rfl ?_; (try simp only [Act.put, k1, k2, k3]); (try simp only [← labV_eq]))); (try simp only [k4, k5, k6, Act.put, k1, k2, k3]))
  refine bodyPost_ret (results_row_tmp (h := rfl) _ _ _ _ _ _ _ rfl (hm.heap (i := 0) rfl) undLabel rfl (by first | exact sizeLabel | (simp only [rowOf_size]; exact sizeLabel))) rfl ?_
  exact ⟨by simp only [labV_eq]; try rfl, hm.ext⟩
end Go.Proofs.Ytdlfgoiakkkilaa
