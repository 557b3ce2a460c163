/-
  Timers: a time is come to.
-/
import Derived.Test.YthcpdjlomdchdaaTimF
namespace Go.Proofs.Ythcpdjlomdchdaa
open Go.RowKit
set_option linter.unusedSimpArgs false
set_option linter.unusedVariables false
set_option maxHeartbeats 1000000
set_option maxRecDepth 20000

/-- The ids that are told up to a time, and what is left. -/
inductive Ticks (to : Int) : Tl → List Int → Tl → Prop
  | stop (l : Tl) (h : ∀ y ∈ l, to < y.2) : Ticks to l [] l
  | step (l : Tl) (x : Int × Int) (o : List Int) (l' : Tl) (h : First l x) (hx : x.2 ≤ to) (k : Ticks to (out x.1 l) o l') : Ticks to l (x.1 :: o) l'
theorem first_ex : ∀ (l : Tl), l ≠ [] → ∃ x, First l x
  | [], h => (h rfl).elim
  | [x], _ => ⟨x, by simp, fun y hy => by rw [List.mem_singleton.1 hy]; exact ok_refl _⟩
  | x :: z :: r, _ => by
    obtain ⟨y, hy1, hy2⟩ := first_ex (z :: r) (by simp)
    cases hxy : ahB x y with
    | true => exact ⟨x, by simp, fun u hu => by
        rcases List.mem_cons.1 hu with rfl | hu
        · exact ok_refl _
        · exact ok_trans (hy2 u hu) (ok_of_ah hxy)⟩
    | false => exact ⟨y, List.mem_cons_of_mem _ hy1, fun u hu => by
        rcases List.mem_cons.1 hu with rfl | hu
        · exact hxy
        · exact hy2 u hu⟩
theorem out_lt {l : Tl} {x : Int × Int} (h : x ∈ l) : (out x.1 l).length < l.length := by
  unfold out
  exact List.length_filter_lt_length_iff_exists.2 ⟨x, h, by simp⟩
theorem ticks_ex (to : Int) : ∀ (n : Nat) (l : Tl), l.length ≤ n → ∃ o l', Ticks to l o l'
  | 0, l, h => ⟨[], l, .stop l fun y hy => by cases l <;> simp_all⟩
  | n + 1, l, h => by
    by_cases hl : ∀ y ∈ l, to < y.2
    · exact ⟨[], l, .stop l hl⟩
    · obtain ⟨x, hx⟩ := first_ex l (by intro e; subst e; exact hl (by simp))
      by_cases hxt : x.2 ≤ to
      · have := out_lt hx.1
        obtain ⟨o, l', hk⟩ := ticks_ex to n (out x.1 l) (by omega)
        exact ⟨_, l', .step l x o l' hx hxt hk⟩
      · exact (hl fun y hy => by have := hx.2 y hy; rw [ahB_false] at this; omega).elim
theorem Ticks.length {to : Int} {l : Tl} {o : List Int} {l' : Tl} (h : Ticks to l o l') : o.length ≤ l.length := by
  induction h with
  | stop l h => simp
  | step l x o l' h hx k ih => have := out_lt h.1; simp only [List.length_cons]; omega

theorem Ticks.inv {to : Int} {l : Tl} {o : List Int} {l' : Tl} (h : Ticks to l o l') : (o = [] ∧ l' = l ∧ ∀ y ∈ l, to < y.2) ∨ ∃ (x : Int × Int) (o3 : List Int), o = x.1 :: o3 ∧ First l x ∧ x.2 ≤ to ∧ Ticks to (out x.1 l) o3 l' := by
  cases h with
  | stop _ h => exact .inl ⟨rfl, rfl, h⟩
  | step _ x o _ h hx k => exact .inr ⟨x, o, rfl, h, hx, k⟩
/-- A slice of ints in blocks of ours. -/
def IntSl (sv : Value) (o : List Int) (S : List (Nat × Obj)) : Prop :=
  (o = [] ∧ sv = .slice none 0 0 ∧ S = []) ∨ ∃ (g cap : Nat) (cur : Array Value), 0 < o.length ∧ o.length ≤ cap ∧ cap < 2 ^ 63 ∧ cur.size = cap ∧ (∀ (j : Nat) (x : Int), o[j]? = some x → cur[j]? = some (.int .i64 x)) ∧ sv = .slice (some ⟨g, 0, none⟩) o.length cap ∧ S = [(g, .cells cur 3 (0, 0))]
theorem IntSl.nil : IntSl (.slice none 0 0) [] [] := .inl ⟨rfl, rfl, rfl⟩
def lenOf : Value → Nat | .slice _ n _ => n | _ => 0
theorem IntSl.len {sv : Value} {o : List Int} {S : List (Nat × Obj)} (h : IntSl sv o S) : lenOf sv = o.length := by
  rcases h with ⟨rfl, rfl, _⟩ | ⟨g, cap, cur, _, _, _, _, _, rfl, _⟩ <;> rfl
theorem elInt : El Try.prog 34 3 1 8 (.int .i64 0) := El.mk (by kernel_rfl) (by kernel_rfl)
attribute [local irreducible] wpQuiet wpList wpAnyH wpAnyG Calls

theorem tick_arg (tb : Nat) (now to : Int) (l : Tl) (h : to < now) : TmCall 12 #[.pointer (some ⟨tb, 0, none⟩), .int .i64 to] tb now l (.tuple #[.slice none 0 0, .int .i64 1]) now l := fun w B hT hm => by
  obtain ⟨sl, mb, R, rfl, hT'⟩ := hT.head
  clear hT'
  have g1 : decide (to < now) = true := decide_eq_true h
  go_enter Try.func12, Try.ntmps12
  go_wp2_with ((first | refine wpList_skip (by rfl) ?_ | (refine wlL (hm := hm) (hu := by first | exact undOne) (hi := by (try simp only [rowOf_size]); first | exact sizeOne) (h := ?_); (try simp only [Act.put, k1, k2, k3]); (try simp only [List.nil_append])) | refine wlLC (hm := hm) (hu := by first | exact undInt | exact undSl | exact undMp) (h := ?_) | (refine wlS (hm := hm) (hv := (by first | rfl | exact idV_eq _ | exact labV_eq _ _ | exact rectV_eq _ _ _ _)) (hi := by (try simp only [rowOf_size]); first | exact sizeOne) (hs := by first | (simp only [rowOf_size]; done) | rfl) (h := ?_); clear hm; intro w1 hm; (try simp only [rowOf_set, k1, k2, k3, Value.cells, Act.eval, k7, k8, k9, kA, Option.getD_some] at hm)) | (refine wlSC (hm := hm) (hi := by first | exact sizeInt | exact sizeSl | exact sizeMp) (ho := by first | decide | (simp only [rowOf_size]; omega) | (simp; done)) (h := ?_); clear hm; intro w1 hm; (try simp only [rowOf_set, k1, k2, k3, Value.cells, Act.eval, k7, k8, k9, kA, Option.getD_some] at hm)) | (refine wlA (hz := by first | exact zeroOne) (hm := hm) (h := ?_); clear hm; intro b1 w1 hm; (try simp only [rowOf_set, k1, k2, k3, Value.cells, Act.eval, k7, k8, k9, kA, Option.getD_some] at hm)) | (refine wl_box (by rfl) rfl (by first | exact idV_cells _ | exact labV_cells _ _ | exact rectV_cells _ _ _ _ | rfl) hm ?_; clear hm; intro b1 w1 hm) | (with_reducible first | refine stBs ?_ | refine stMs ?_ | refine stAp ?_ | refine stCo ?_)); (try simp only [k4, k5, k6, Act.put, k1, k2, k3]))
  go_ret2
  exact ⟨rfl, _, hT, hm⟩

theorem tick_c (tb : Nat) (now to : Int) (l : Tl) (o : List Int) (l' : Tl) (hto : ¬ to < now) (hK : Ticks to l o l') (w : World) (B : List (Nat × Obj)) (hT : TmIs tb now l B) (hm : Mem w (B.map (·.1)) B w) :
    Calls Try.prog 12 #[.pointer (some ⟨tb, 0, none⟩), .int .i64 to] w fun e w' => Hid (∃ sv S B', e = .returned (.tuple #[sv, .int .i64 0]) ∧ IntSl sv o S ∧ TmIs tb to l' B' ∧ Mem w (B.map (·.1)) (S ++ B') w') := by
  have holen : o.length ≤ 1000 := Nat.le_trans hK.length hT.most
  obtain ⟨sl, mb, R, rfl, hT'⟩ := hT.head
  have hT2 := hT' to
  obtain ⟨own, hown⟩ : ∃ own, ((tb, .cells #[.int .i64 now, sl, .map (some mb)] 50 (0, 0)) :: R : List (Nat × Obj)).map (·.1) = own := ⟨_, rfl⟩
  rw [hown] at hm ⊢
  clear hown hT' hT
  have g1 : decide (to < now) = false := decide_eq_false hto
  go_enter Try.func12, Try.ntmps12
  go_wp2_with ((first | refine wpList_skip (by rfl) ?_ | (refine wlL (hm := hm) (hu := by first | exact undOne) (hi := by (try simp only [rowOf_size]); first | exact sizeOne) (h := ?_); (try simp only [Act.put, k1, k2, k3]); (try simp only [List.nil_append])) | refine wlLC (hm := hm) (hu := by first | exact undInt | exact undSl | exact undMp) (h := ?_) | (refine wlS (hm := hm) (hv := (by first | rfl | exact idV_eq _ | exact labV_eq _ _ | exact rectV_eq _ _ _ _)) (hi := by (try simp only [rowOf_size]); first | exact sizeOne) (hs := by first | (simp only [rowOf_size]; done) | rfl) (h := ?_); clear hm; intro w1 hm; (try simp only [rowOf_set, k1, k2, k3, Value.cells, Act.eval, k7, k8, k9, kA, Option.getD_some] at hm)) | (refine wlSC (hm := hm) (hi := by first | exact sizeInt | exact sizeSl | exact sizeMp) (ho := by first | decide | (simp only [rowOf_size]; omega) | (simp; done)) (h := ?_); clear hm; intro w1 hm; (try simp only [rowOf_set, k1, k2, k3, Value.cells, Act.eval, k7, k8, k9, kA, Option.getD_some] at hm)) | (refine wlA (hz := by first | exact zeroOne) (hm := hm) (h := ?_); clear hm; intro b1 w1 hm; (try simp only [rowOf_set, k1, k2, k3, Value.cells, Act.eval, k7, k8, k9, kA, Option.getD_some] at hm)) | (refine wl_box (by rfl) rfl (by first | exact idV_cells _ | exact labV_cells _ _ | exact rectV_cells _ _ _ _ | rfl) hm ?_; clear hm; intro b1 w1 hm) | (with_reducible first | refine stBs ?_ | refine stMs ?_ | refine stAp ?_ | refine stCo ?_)); (try simp only [k4, k5, k6, Act.put, k1, k2, k3]))
  replace hT := hT2
  generalize ((tb, .cells #[.int .i64 to, sl, .map (some mb)] 50 (0, 0)) :: R : List (Nat × Obj)) = B at hT hm
  clear hT2
  go_loopw [6, 7, 8, 9] (fun vo v7 v8 v9 wr => ∃ (acc o2 : List Int) (lc : Tl) (S B' : List (Nat × Obj)), o = acc ++ o2 ∧ Ticks to lc o2 l' ∧ IntSl vo acc S ∧ TmIs tb to lc B' ∧ Mem w own (S ++ B') wr) (fun vo _ _ _ _ => o.length - lenOf vo)
  case atStart => exact ⟨[], o, l, [], B, rfl, hK, IntSl.nil, hT, hm⟩
  case round =>
    clear hm hT hK
    obtain ⟨acc, o2, lc, S, B', ho, hK, hS, hT, hm⟩ := hrel
    have hlen := hS.len
    rcases hK.inv with ⟨rfl, el, hall⟩ | ⟨x, o3, rfl, hx, hxt, hk⟩
    · by_cases hl : lc = []
      · subst hl
        go_wp2_with ((first | refine wpList_skip (by rfl) ?_ | (refine wlL (hm := hm) (hu := by first | exact undOne) (hi := by (try simp only [rowOf_size]); first | exact sizeOne) (h := ?_); (try simp only [Act.put, k1, k2, k3]); (try simp only [List.nil_append])) | refine wlLC (hm := hm) (hu := by first | exact undInt | exact undSl | exact undMp) (h := ?_) | (refine wlS (hm := hm) (hv := (by first | rfl | exact idV_eq _ | exact labV_eq _ _ | exact rectV_eq _ _ _ _)) (hi := by (try simp only [rowOf_size]); first | exact sizeOne) (hs := by first | (simp only [rowOf_size]; done) | rfl) (h := ?_); clear hm; intro w1 hm; (try simp only [rowOf_set, k1, k2, k3, Value.cells, Act.eval, k7, k8, k9, kA, Option.getD_some] at hm)) | (refine wlSC (hm := hm) (hi := by first | exact sizeInt | exact sizeSl | exact sizeMp) (ho := by first | decide | (simp only [rowOf_size]; omega) | (simp; done)) (h := ?_); clear hm; intro w1 hm; (try simp only [rowOf_set, k1, k2, k3, Value.cells, Act.eval, k7, k8, k9, kA, Option.getD_some] at hm)) | (refine wlA (hz := by first | exact zeroOne) (hm := hm) (h := ?_); clear hm; intro b1 w1 hm; (try simp only [rowOf_set, k1, k2, k3, Value.cells, Act.eval, k7, k8, k9, kA, Option.getD_some] at hm)) | (refine wl_box (by rfl) rfl (by first | exact idV_cells _ | exact labV_cells _ _ | exact rectV_cells _ _ _ _ | rfl) hm ?_; clear hm; intro b1 w1 hm) | (with_reducible first | refine stBs ?_ | refine stMs ?_ | refine stAp ?_ | refine stCo ?_)); (try simp only [k4, k5, k6, Act.put, k1, k2, k3]))
        refine ((tm_next0 tb to).use hT hm).mono ?_
        rintro e w3 ⟨rfl, B2, hT2, hx⟩
        go_wp2_with ((first | refine wpList_skip (by rfl) ?_ | (refine wlL (hm := hm) (hu := by first | exact undOne) (hi := by (try simp only [rowOf_size]); first | exact sizeOne) (h := ?_); (try simp only [Act.put, k1, k2, k3]); (try simp only [List.nil_append])) | refine wlLC (hm := hm) (hu := by first | exact undInt | exact undSl | exact undMp) (h := ?_) | (refine wlS (hm := hm) (hv := (by first | rfl | exact idV_eq _ | exact labV_eq _ _ | exact rectV_eq _ _ _ _)) (hi := by (try simp only [rowOf_size]); first | exact sizeOne) (hs := by first | (simp only [rowOf_size]; done) | rfl) (h := ?_); clear hm; intro w1 hm; (try simp only [rowOf_set, k1, k2, k3, Value.cells, Act.eval, k7, k8, k9, kA, Option.getD_some] at hm)) | (refine wlSC (hm := hm) (hi := by first | exact sizeInt | exact sizeSl | exact sizeMp) (ho := by first | decide | (simp only [rowOf_size]; omega) | (simp; done)) (h := ?_); clear hm; intro w1 hm; (try simp only [rowOf_set, k1, k2, k3, Value.cells, Act.eval, k7, k8, k9, kA, Option.getD_some] at hm)) | (refine wlA (hz := by first | exact zeroOne) (hm := hm) (h := ?_); clear hm; intro b1 w1 hm; (try simp only [rowOf_set, k1, k2, k3, Value.cells, Act.eval, k7, k8, k9, kA, Option.getD_some] at hm)) | (refine wl_box (by rfl) rfl (by first | exact idV_cells _ | exact labV_cells _ _ | exact rectV_cells _ _ _ _ | rfl) hm ?_; clear hm; intro b1 w1 hm) | (with_reducible first | refine stBs ?_ | refine stMs ?_ | refine stAp ?_ | refine stCo ?_)); (try simp only [k4, k5, k6, Act.put, k1, k2, k3]))
        go_ret2
        exact ⟨_, S, B2, rfl, (by rw [ho, List.append_nil]; exact hS), (by rw [el]; exact hT2), hx⟩
      · obtain ⟨x, hx⟩ := first_ex lc hl
        have g2 : decide (to < x.2) = true := decide_eq_true (hall x hx.1)
        go_wp2_with ((first | refine wpList_skip (by rfl) ?_ | (refine wlL (hm := hm) (hu := by first | exact undOne) (hi := by (try simp only [rowOf_size]); first | exact sizeOne) (h := ?_); (try simp only [Act.put, k1, k2, k3]); (try simp only [List.nil_append])) | refine wlLC (hm := hm) (hu := by first | exact undInt | exact undSl | exact undMp) (h := ?_) | (refine wlS (hm := hm) (hv := (by first | rfl | exact idV_eq _ | exact labV_eq _ _ | exact rectV_eq _ _ _ _)) (hi := by (try simp only [rowOf_size]); first | exact sizeOne) (hs := by first | (simp only [rowOf_size]; done) | rfl) (h := ?_); clear hm; intro w1 hm; (try simp only [rowOf_set, k1, k2, k3, Value.cells, Act.eval, k7, k8, k9, kA, Option.getD_some] at hm)) | (refine wlSC (hm := hm) (hi := by first | exact sizeInt | exact sizeSl | exact sizeMp) (ho := by first | decide | (simp only [rowOf_size]; omega) | (simp; done)) (h := ?_); clear hm; intro w1 hm; (try simp only [rowOf_set, k1, k2, k3, Value.cells, Act.eval, k7, k8, k9, kA, Option.getD_some] at hm)) | (refine wlA (hz := by first | exact zeroOne) (hm := hm) (h := ?_); clear hm; intro b1 w1 hm; (try simp only [rowOf_set, k1, k2, k3, Value.cells, Act.eval, k7, k8, k9, kA, Option.getD_some] at hm)) | (refine wl_box (by rfl) rfl (by first | exact idV_cells _ | exact labV_cells _ _ | exact rectV_cells _ _ _ _ | rfl) hm ?_; clear hm; intro b1 w1 hm) | (with_reducible first | refine stBs ?_ | refine stMs ?_ | refine stAp ?_ | refine stCo ?_)); (try simp only [k4, k5, k6, Act.put, k1, k2, k3]))
        refine ((tm_next1 tb to lc x hx).use hT hm).mono ?_
        rintro e w3 ⟨rfl, B2, hT2, hm2⟩
        go_wp2_with ((first | refine wpList_skip (by rfl) ?_ | (refine wlL (hm := hm) (hu := by first | exact undOne) (hi := by (try simp only [rowOf_size]); first | exact sizeOne) (h := ?_); (try simp only [Act.put, k1, k2, k3]); (try simp only [List.nil_append])) | refine wlLC (hm := hm) (hu := by first | exact undInt | exact undSl | exact undMp) (h := ?_) | (refine wlS (hm := hm) (hv := (by first | rfl | exact idV_eq _ | exact labV_eq _ _ | exact rectV_eq _ _ _ _)) (hi := by (try simp only [rowOf_size]); first | exact sizeOne) (hs := by first | (simp only [rowOf_size]; done) | rfl) (h := ?_); clear hm; intro w1 hm; (try simp only [rowOf_set, k1, k2, k3, Value.cells, Act.eval, k7, k8, k9, kA, Option.getD_some] at hm)) | (refine wlSC (hm := hm) (hi := by first | exact sizeInt | exact sizeSl | exact sizeMp) (ho := by first | decide | (simp only [rowOf_size]; omega) | (simp; done)) (h := ?_); clear hm; intro w1 hm; (try simp only [rowOf_set, k1, k2, k3, Value.cells, Act.eval, k7, k8, k9, kA, Option.getD_some] at hm)) | (refine wlA (hz := by first | exact zeroOne) (hm := hm) (h := ?_); clear hm; intro b1 w1 hm; (try simp only [rowOf_set, k1, k2, k3, Value.cells, Act.eval, k7, k8, k9, kA, Option.getD_some] at hm)) | (refine wl_box (by rfl) rfl (by first | exact idV_cells _ | exact labV_cells _ _ | exact rectV_cells _ _ _ _ | rfl) hm ?_; clear hm; intro b1 w1 hm) | (with_reducible first | refine stBs ?_ | refine stMs ?_ | refine stAp ?_ | refine stCo ?_)); (try simp only [k4, k5, k6, Act.put, k1, k2, k3]))
        go_ret2
        exact ⟨_, S, B2, rfl, (by rw [ho, List.append_nil]; exact hS), (by rw [el]; exact hT2), hm2⟩
    · have g2 : decide (to < x.2) = false := decide_eq_false (by omega)
      go_wp2_with ((first | refine wpList_skip (by rfl) ?_ | (refine wlL (hm := hm) (hu := by first | exact undOne) (hi := by (try simp only [rowOf_size]); first | exact sizeOne) (h := ?_); (try simp only [Act.put, k1, k2, k3]); (try simp only [List.nil_append])) | refine wlLC (hm := hm) (hu := by first | exact undInt | exact undSl | exact undMp) (h := ?_) | (refine wlS (hm := hm) (hv := (by first | rfl | exact idV_eq _ | exact labV_eq _ _ | exact rectV_eq _ _ _ _)) (hi := by (try simp only [rowOf_size]); first | exact sizeOne) (hs := by first | (simp only [rowOf_size]; done) | rfl) (h := ?_); clear hm; intro w1 hm; (try simp only [rowOf_set, k1, k2, k3, Value.cells, Act.eval, k7, k8, k9, kA, Option.getD_some] at hm)) | (refine wlSC (hm := hm) (hi := by first | exact sizeInt | exact sizeSl | exact sizeMp) (ho := by first | decide | (simp only [rowOf_size]; omega) | (simp; done)) (h := ?_); clear hm; intro w1 hm; (try simp only [rowOf_set, k1, k2, k3, Value.cells, Act.eval, k7, k8, k9, kA, Option.getD_some] at hm)) | (refine wlA (hz := by first | exact zeroOne) (hm := hm) (h := ?_); clear hm; intro b1 w1 hm; (try simp only [rowOf_set, k1, k2, k3, Value.cells, Act.eval, k7, k8, k9, kA, Option.getD_some] at hm)) | (refine wl_box (by rfl) rfl (by first | exact idV_cells _ | exact labV_cells _ _ | exact rectV_cells _ _ _ _ | rfl) hm ?_; clear hm; intro b1 w1 hm) | (with_reducible first | refine stBs ?_ | refine stMs ?_ | refine stAp ?_ | refine stCo ?_)); (try simp only [k4, k5, k6, Act.put, k1, k2, k3]))
      refine ((tm_next1 tb to lc x hx).use hT hm).mono ?_
      rintro e w3 ⟨rfl, B2, hT2, hm2⟩
      clear hm hT
      have hm := hm2
      clear hm2
      rcases hS with ⟨rfl, rfl, rfl⟩ | ⟨g, cap, cur, s0, s1, s2, s3, s4, rfl, rfl⟩
      · replace hm : Mem w own B2 w3 := hm
        go_wp2_with ((first | refine wpList_skip (by rfl) ?_ | (refine wlL (hm := hm) (hu := by first | exact undOne) (hi := by (try simp only [rowOf_size]); first | exact sizeOne) (h := ?_); (try simp only [Act.put, k1, k2, k3]); (try simp only [List.nil_append])) | refine wlLC (hm := hm) (hu := by first | exact undInt | exact undSl | exact undMp) (h := ?_) | (refine wlS (hm := hm) (hv := (by first | rfl | exact idV_eq _ | exact labV_eq _ _ | exact rectV_eq _ _ _ _)) (hi := by (try simp only [rowOf_size]); first | exact sizeOne) (hs := by first | (simp only [rowOf_size]; done) | rfl) (h := ?_); clear hm; intro w1 hm; (try simp only [rowOf_set, k1, k2, k3, Value.cells, Act.eval, k7, k8, k9, kA, Option.getD_some] at hm)) | (refine wlSC (hm := hm) (hi := by first | exact sizeInt | exact sizeSl | exact sizeMp) (ho := by first | decide | (simp only [rowOf_size]; omega) | (simp; done)) (h := ?_); clear hm; intro w1 hm; (try simp only [rowOf_set, k1, k2, k3, Value.cells, Act.eval, k7, k8, k9, kA, Option.getD_some] at hm)) | (refine wlA (hz := by first | exact zeroOne) (hm := hm) (h := ?_); clear hm; intro b1 w1 hm; (try simp only [rowOf_set, k1, k2, k3, Value.cells, Act.eval, k7, k8, k9, kA, Option.getD_some] at hm)) | (refine wl_box (by rfl) rfl (by first | exact idV_cells _ | exact labV_cells _ _ | exact rectV_cells _ _ _ _ | rfl) hm ?_; clear hm; intro b1 w1 hm) | (with_reducible first | refine stBs ?_ | refine stMs ?_ | refine stAp ?_ | refine stCo ?_)); (try simp only [k4, k5, k6, Act.put, k1, k2, k3]))
        refine Stop.go (wl_buildSlice (ps := [(0, .int .i64 x.1)]) (cells := #[.int .i64 x.1]) (by rfl) hm elInt (by decide) (by decide) (by simp [Act.eval]) (fill_one _ _ rfl) ?_)
        clear hm; intro gn w2 hm; simp only [Act.put, k1, k2, k3]
        go_wp2_with ((first | refine wpList_skip (by rfl) ?_ | (refine wlL (hm := hm) (hu := by first | exact undOne) (hi := by (try simp only [rowOf_size]); first | exact sizeOne) (h := ?_); (try simp only [Act.put, k1, k2, k3]); (try simp only [List.nil_append])) | refine wlLC (hm := hm) (hu := by first | exact undInt | exact undSl | exact undMp) (h := ?_) | (refine wlS (hm := hm) (hv := (by first | rfl | exact idV_eq _ | exact labV_eq _ _ | exact rectV_eq _ _ _ _)) (hi := by (try simp only [rowOf_size]); first | exact sizeOne) (hs := by first | (simp only [rowOf_size]; done) | rfl) (h := ?_); clear hm; intro w1 hm; (try simp only [rowOf_set, k1, k2, k3, Value.cells, Act.eval, k7, k8, k9, kA, Option.getD_some] at hm)) | (refine wlSC (hm := hm) (hi := by first | exact sizeInt | exact sizeSl | exact sizeMp) (ho := by first | decide | (simp only [rowOf_size]; omega) | (simp; done)) (h := ?_); clear hm; intro w1 hm; (try simp only [rowOf_set, k1, k2, k3, Value.cells, Act.eval, k7, k8, k9, kA, Option.getD_some] at hm)) | (refine wlA (hz := by first | exact zeroOne) (hm := hm) (h := ?_); clear hm; intro b1 w1 hm; (try simp only [rowOf_set, k1, k2, k3, Value.cells, Act.eval, k7, k8, k9, kA, Option.getD_some] at hm)) | (refine wl_box (by rfl) rfl (by first | exact idV_cells _ | exact labV_cells _ _ | exact rectV_cells _ _ _ _ | rfl) hm ?_; clear hm; intro b1 w1 hm) | (with_reducible first | refine stBs ?_ | refine stMs ?_ | refine stAp ?_ | refine stCo ?_)); (try simp only [k4, k5, k6, Act.put, k1, k2, k3]))
        have hnw := news_of (i := 0) hm rfl
        refine Stop.go (wl_op (by rfl) fun K hK => ow_append_nil (m := 1) (c := 1) (news := [.int .i64 x.1]) (ad := ⟨gn, 0, none⟩) (sz := 1) hm elInt rfl rfl rfl (by decide) rfl hnw (by decide) (by decide) ?_)
        intro g' cap' cur' w4 hm' p1 p2 p3 p5; clear hm; have hm := hm'; clear hm'; refine hK _ _ ?_; clear hK K; simp only [Act.put, k1, k2, k3]; (try (simp only [rowOf_set, k1, k2, k3, Value.cells, Act.eval, k7, k8, k9, kA, Option.getD_some] at hm))
        replace hm := hm.erase 1
        go_wp2_with ((first | refine wpList_skip (by rfl) ?_ | (refine wlL (hm := hm) (hu := by first | exact undOne) (hi := by (try simp only [rowOf_size]); first | exact sizeOne) (h := ?_); (try simp only [Act.put, k1, k2, k3]); (try simp only [List.nil_append])) | refine wlLC (hm := hm) (hu := by first | exact undInt | exact undSl | exact undMp) (h := ?_) | (refine wlS (hm := hm) (hv := (by first | rfl | exact idV_eq _ | exact labV_eq _ _ | exact rectV_eq _ _ _ _)) (hi := by (try simp only [rowOf_size]); first | exact sizeOne) (hs := by first | (simp only [rowOf_size]; done) | rfl) (h := ?_); clear hm; intro w1 hm; (try simp only [rowOf_set, k1, k2, k3, Value.cells, Act.eval, k7, k8, k9, kA, Option.getD_some] at hm)) | (refine wlSC (hm := hm) (hi := by first | exact sizeInt | exact sizeSl | exact sizeMp) (ho := by first | decide | (simp only [rowOf_size]; omega) | (simp; done)) (h := ?_); clear hm; intro w1 hm; (try simp only [rowOf_set, k1, k2, k3, Value.cells, Act.eval, k7, k8, k9, kA, Option.getD_some] at hm)) | (refine wlA (hz := by first | exact zeroOne) (hm := hm) (h := ?_); clear hm; intro b1 w1 hm; (try simp only [rowOf_set, k1, k2, k3, Value.cells, Act.eval, k7, k8, k9, kA, Option.getD_some] at hm)) | (refine wl_box (by rfl) rfl (by first | exact idV_cells _ | exact labV_cells _ _ | exact rectV_cells _ _ _ _ | rfl) hm ?_; clear hm; intro b1 w1 hm) | (with_reducible first | refine stBs ?_ | refine stMs ?_ | refine stAp ?_ | refine stCo ?_)); (try simp only [k4, k5, k6, Act.put, k1, k2, k3]))
        refine ((tm_cancel tb to x.1 lc ⟨x, hx.1, rfl⟩).use (A := [_]) hT2 hm).mono ?_
        rintro e w5 ⟨rfl, B3, hT3, hm3⟩
        go_wp2_with ((first | refine wpList_skip (by rfl) ?_ | (refine wlL (hm := hm) (hu := by first | exact undOne) (hi := by (try simp only [rowOf_size]); first | exact sizeOne) (h := ?_); (try simp only [Act.put, k1, k2, k3]); (try simp only [List.nil_append])) | refine wlLC (hm := hm) (hu := by first | exact undInt | exact undSl | exact undMp) (h := ?_) | (refine wlS (hm := hm) (hv := (by first | rfl | exact idV_eq _ | exact labV_eq _ _ | exact rectV_eq _ _ _ _)) (hi := by (try simp only [rowOf_size]); first | exact sizeOne) (hs := by first | (simp only [rowOf_size]; done) | rfl) (h := ?_); clear hm; intro w1 hm; (try simp only [rowOf_set, k1, k2, k3, Value.cells, Act.eval, k7, k8, k9, kA, Option.getD_some] at hm)) | (refine wlSC (hm := hm) (hi := by first | exact sizeInt | exact sizeSl | exact sizeMp) (ho := by first | decide | (simp only [rowOf_size]; omega) | (simp; done)) (h := ?_); clear hm; intro w1 hm; (try simp only [rowOf_set, k1, k2, k3, Value.cells, Act.eval, k7, k8, k9, kA, Option.getD_some] at hm)) | (refine wlA (hz := by first | exact zeroOne) (hm := hm) (h := ?_); clear hm; intro b1 w1 hm; (try simp only [rowOf_set, k1, k2, k3, Value.cells, Act.eval, k7, k8, k9, kA, Option.getD_some] at hm)) | (refine wl_box (by rfl) rfl (by first | exact idV_cells _ | exact labV_cells _ _ | exact rectV_cells _ _ _ _ | rfl) hm ?_; clear hm; intro b1 w1 hm) | (with_reducible first | refine stBs ?_ | refine stMs ?_ | refine stAp ?_ | refine stCo ?_)); (try simp only [k4, k5, k6, Act.put, k1, k2, k3]))
        go_roundw
        case rel => exact ⟨[x.1], o3, out x.1 lc, _, B3, ho, hk, .inr ⟨g', cap', cur', by simp, p1, p2, by omega, fun j y hj => by
          match j, hj with
          | 0, hj => rw [← Option.some.inj hj]; exact p5 0 (by omega)
          | j + 1, hj => simp at hj, rfl, rfl⟩, hT3, hm3⟩
        case measure => (rw [ho]; simp [lenOf])
      · replace hm : Mem w own ((g, .cells cur 3 (0, 0)) :: B2) w3 := hm
        go_wp2_with ((first | refine wpList_skip (by rfl) ?_ | (refine wlL (hm := hm) (hu := by first | exact undOne) (hi := by (try simp only [rowOf_size]); first | exact sizeOne) (h := ?_); (try simp only [Act.put, k1, k2, k3]); (try simp only [List.nil_append])) | refine wlLC (hm := hm) (hu := by first | exact undInt | exact undSl | exact undMp) (h := ?_) | (refine wlS (hm := hm) (hv := (by first | rfl | exact idV_eq _ | exact labV_eq _ _ | exact rectV_eq _ _ _ _)) (hi := by (try simp only [rowOf_size]); first | exact sizeOne) (hs := by first | (simp only [rowOf_size]; done) | rfl) (h := ?_); clear hm; intro w1 hm; (try simp only [rowOf_set, k1, k2, k3, Value.cells, Act.eval, k7, k8, k9, kA, Option.getD_some] at hm)) | (refine wlSC (hm := hm) (hi := by first | exact sizeInt | exact sizeSl | exact sizeMp) (ho := by first | decide | (simp only [rowOf_size]; omega) | (simp; done)) (h := ?_); clear hm; intro w1 hm; (try simp only [rowOf_set, k1, k2, k3, Value.cells, Act.eval, k7, k8, k9, kA, Option.getD_some] at hm)) | (refine wlA (hz := by first | exact zeroOne) (hm := hm) (h := ?_); clear hm; intro b1 w1 hm; (try simp only [rowOf_set, k1, k2, k3, Value.cells, Act.eval, k7, k8, k9, kA, Option.getD_some] at hm)) | (refine wl_box (by rfl) rfl (by first | exact idV_cells _ | exact labV_cells _ _ | exact rectV_cells _ _ _ _ | rfl) hm ?_; clear hm; intro b1 w1 hm) | (with_reducible first | refine stBs ?_ | refine stMs ?_ | refine stAp ?_ | refine stCo ?_)); (try simp only [k4, k5, k6, Act.put, k1, k2, k3]))
        refine Stop.go (wl_buildSlice (ps := [(0, .int .i64 x.1)]) (cells := #[.int .i64 x.1]) (by rfl) hm elInt (by decide) (by decide) (by simp [Act.eval]) (fill_one _ _ rfl) ?_)
        clear hm; intro gn w2 hm; simp only [Act.put, k1, k2, k3]
        go_wp2_with ((first | refine wpList_skip (by rfl) ?_ | (refine wlL (hm := hm) (hu := by first | exact undOne) (hi := by (try simp only [rowOf_size]); first | exact sizeOne) (h := ?_); (try simp only [Act.put, k1, k2, k3]); (try simp only [List.nil_append])) | refine wlLC (hm := hm) (hu := by first | exact undInt | exact undSl | exact undMp) (h := ?_) | (refine wlS (hm := hm) (hv := (by first | rfl | exact idV_eq _ | exact labV_eq _ _ | exact rectV_eq _ _ _ _)) (hi := by (try simp only [rowOf_size]); first | exact sizeOne) (hs := by first | (simp only [rowOf_size]; done) | rfl) (h := ?_); clear hm; intro w1 hm; (try simp only [rowOf_set, k1, k2, k3, Value.cells, Act.eval, k7, k8, k9, kA, Option.getD_some] at hm)) | (refine wlSC (hm := hm) (hi := by first | exact sizeInt | exact sizeSl | exact sizeMp) (ho := by first | decide | (simp only [rowOf_size]; omega) | (simp; done)) (h := ?_); clear hm; intro w1 hm; (try simp only [rowOf_set, k1, k2, k3, Value.cells, Act.eval, k7, k8, k9, kA, Option.getD_some] at hm)) | (refine wlA (hz := by first | exact zeroOne) (hm := hm) (h := ?_); clear hm; intro b1 w1 hm; (try simp only [rowOf_set, k1, k2, k3, Value.cells, Act.eval, k7, k8, k9, kA, Option.getD_some] at hm)) | (refine wl_box (by rfl) rfl (by first | exact idV_cells _ | exact labV_cells _ _ | exact rectV_cells _ _ _ _ | rfl) hm ?_; clear hm; intro b1 w1 hm) | (with_reducible first | refine stBs ?_ | refine stMs ?_ | refine stAp ?_ | refine stCo ?_)); (try simp only [k4, k5, k6, Act.put, k1, k2, k3]))
        have hnw := news_of (i := 0) hm rfl
        have hal : acc.length < 1000 := by rw [ho] at holen; simp at holen; omega
        refine Stop.go (wl_op (by rfl) fun K hK => ow_append (i := 1) (n := acc.length) (m := 1) (c := 1) (news := [.int .i64 x.1]) (ad := ⟨gn, 0, none⟩) (sz := 1) (cur := cur) (g := g) hm elInt rfl rfl rfl rfl s1 (by omega) rfl hnw (by intro u hu; simp at hu; subst hu; rfl) (by omega) (by omega) ?_)
        intro g' cap' cur' w4 hm' p1 p2 p3 p4 p5 p6; clear hm; have hm := hm'; clear hm'; refine hK _ _ ?_; clear hK K; simp only [Act.put, k1, k2, k3]; (try (simp only [rowOf_set, k1, k2, k3, Value.cells, Act.eval, k7, k8, k9, kA, Option.getD_some] at hm))
        replace hm := hm.tail
        go_wp2_with ((first | refine wpList_skip (by rfl) ?_ | (refine wlL (hm := hm) (hu := by first | exact undOne) (hi := by (try simp only [rowOf_size]); first | exact sizeOne) (h := ?_); (try simp only [Act.put, k1, k2, k3]); (try simp only [List.nil_append])) | refine wlLC (hm := hm) (hu := by first | exact undInt | exact undSl | exact undMp) (h := ?_) | (refine wlS (hm := hm) (hv := (by first | rfl | exact idV_eq _ | exact labV_eq _ _ | exact rectV_eq _ _ _ _)) (hi := by (try simp only [rowOf_size]); first | exact sizeOne) (hs := by first | (simp only [rowOf_size]; done) | rfl) (h := ?_); clear hm; intro w1 hm; (try simp only [rowOf_set, k1, k2, k3, Value.cells, Act.eval, k7, k8, k9, kA, Option.getD_some] at hm)) | (refine wlSC (hm := hm) (hi := by first | exact sizeInt | exact sizeSl | exact sizeMp) (ho := by first | decide | (simp only [rowOf_size]; omega) | (simp; done)) (h := ?_); clear hm; intro w1 hm; (try simp only [rowOf_set, k1, k2, k3, Value.cells, Act.eval, k7, k8, k9, kA, Option.getD_some] at hm)) | (refine wlA (hz := by first | exact zeroOne) (hm := hm) (h := ?_); clear hm; intro b1 w1 hm; (try simp only [rowOf_set, k1, k2, k3, Value.cells, Act.eval, k7, k8, k9, kA, Option.getD_some] at hm)) | (refine wl_box (by rfl) rfl (by first | exact idV_cells _ | exact labV_cells _ _ | exact rectV_cells _ _ _ _ | rfl) hm ?_; clear hm; intro b1 w1 hm) | (with_reducible first | refine stBs ?_ | refine stMs ?_ | refine stAp ?_ | refine stCo ?_)); (try simp only [k4, k5, k6, Act.put, k1, k2, k3]))
        refine ((tm_cancel tb to x.1 lc ⟨x, hx.1, rfl⟩).use (A := [_]) hT2 hm).mono ?_
        rintro e w5 ⟨rfl, B3, hT3, hm3⟩
        go_wp2_with ((first | refine wpList_skip (by rfl) ?_ | (refine wlL (hm := hm) (hu := by first | exact undOne) (hi := by (try simp only [rowOf_size]); first | exact sizeOne) (h := ?_); (try simp only [Act.put, k1, k2, k3]); (try simp only [List.nil_append])) | refine wlLC (hm := hm) (hu := by first | exact undInt | exact undSl | exact undMp) (h := ?_) | (refine wlS (hm := hm) (hv := (by first | rfl | exact idV_eq _ | exact labV_eq _ _ | exact rectV_eq _ _ _ _)) (hi := by (try simp only [rowOf_size]); first | exact sizeOne) (hs := by first | (simp only [rowOf_size]; done) | rfl) (h := ?_); clear hm; intro w1 hm; (try simp only [rowOf_set, k1, k2, k3, Value.cells, Act.eval, k7, k8, k9, kA, Option.getD_some] at hm)) | (refine wlSC (hm := hm) (hi := by first | exact sizeInt | exact sizeSl | exact sizeMp) (ho := by first | decide | (simp only [rowOf_size]; omega) | (simp; done)) (h := ?_); clear hm; intro w1 hm; (try simp only [rowOf_set, k1, k2, k3, Value.cells, Act.eval, k7, k8, k9, kA, Option.getD_some] at hm)) | (refine wlA (hz := by first | exact zeroOne) (hm := hm) (h := ?_); clear hm; intro b1 w1 hm; (try simp only [rowOf_set, k1, k2, k3, Value.cells, Act.eval, k7, k8, k9, kA, Option.getD_some] at hm)) | (refine wl_box (by rfl) rfl (by first | exact idV_cells _ | exact labV_cells _ _ | exact rectV_cells _ _ _ _ | rfl) hm ?_; clear hm; intro b1 w1 hm) | (with_reducible first | refine stBs ?_ | refine stMs ?_ | refine stAp ?_ | refine stCo ?_)); (try simp only [k4, k5, k6, Act.put, k1, k2, k3]))
        go_roundw
        case rel => exact ⟨acc ++ [x.1], o3, out x.1 lc, _, B3, by rw [ho]; simp, hk, .inr ⟨g', cap', cur', by simp, by simpa using p1, p2 s2, by omega, fun j y hj => by
          rcases Nat.lt_or_ge j acc.length with h1 | h1
          · rw [List.getElem?_append_left h1] at hj
            rw [p4 j (by omega)]
            exact s4 j y hj
          · rw [List.getElem?_append_right h1] at hj
            obtain rfl : j = acc.length := by
              have := (List.getElem?_eq_some_iff.1 hj).1
              simp at this
              omega
            simp at hj
            have := p5 0 (by omega)
            simp at this
            rw [this, hj], by simp, rfl⟩, hT3, hm3⟩
        case measure => (rw [ho]; simp [lenOf]; omega)
end Go.Proofs.Ythcpdjlomdchdaa
