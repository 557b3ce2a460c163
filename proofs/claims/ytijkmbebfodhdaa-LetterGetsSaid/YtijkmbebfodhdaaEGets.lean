/- For all bytes s the call LetterGets(s) returns true and leaves its argument as it was: bytes are just this letter, or none. No condition. -/
import Derived.Test.YtijkmbebfodhdaaRows
import Derived.Test.YtijkmbebfodhdaaEGets5
namespace Go.Proofs.Ytijkmbebfodhdaa.lawEGets
open Go.ChangeShapes Go.WideShapes Go.ChangeAt Go.RowKit
set_option linter.unusedSimpArgs false
set_option linter.unusedVariables false
set_option maxHeartbeats 4000000
set_option maxRecDepth 20000
attribute [local irreducible] wpQuiet wpList wpAnyH Calls

theorem isL_at2 {S : List (Nat × Obj)} {l : Let} {A : LA} (h : IsL S l A) {w0 w : World} {own : List Nat} {X : List (Nat × Obj)} (hm : Mem w0 own (X ++ S) w) : LetAt w l (rowsA A) :=
  h.at (X := X) (Y := []) (by rw [List.append_nil]; exact hm)
/-- What the document's Get answers of bytes that are no letter. -/
def RefN (s : ByteArray) (x : Int) : Prop := ∀ w, Calls Try.prog 42 #[.string s] w fun e w' => e = .returned (.tuple #[letV letZ, .int .i64 x]) ∧ Ext w w'
theorem refN_err {s : ByteArray} {y : Nat} (h : getA s = .error y) (hs : s.size < 2 ^ 61) : RefN s (y : Int) := fun w => by
  refine (refGet_c s hs w).mono ?_
  rintro e w' ⟨m, x, S, rfl, hm, h'⟩
  rcases h' with ⟨A', hA, rfl, hl⟩ | ⟨hA, rfl, rfl⟩
  · rw [h] at hA; cases hA
  · rw [h] at hA
    obtain rfl : y = x := by simpa using hA
    exact ⟨rfl, hm.ext⟩
/-- What it answers of a letter's bytes. -/
def RefY (s : ByteArray) (A : LA) : Prop := ∀ w, Calls Try.prog 42 #[.string s] w fun e w' => ∃ m S, e = .returned (.tuple #[letV m, .int .i64 0]) ∧ Mem w [] S w' ∧ IsL S m A
theorem refY_ok {s : ByteArray} {A : LA} (h : getA s = .ok A) (hs : s.size < 2 ^ 61) : RefY s A := fun w => by
  refine (refGet_c s hs w).mono ?_
  rintro e w' ⟨m, x, S, rfl, hm, h'⟩
  rcases h' with ⟨A', hA, rfl, hl⟩ | ⟨hA, _⟩
  · rw [h] at hA
    obtain rfl : A = A' := by simpa using hA
    exact ⟨m, S, rfl, hm, hl⟩
  · rw [h] at hA; cases hA
theorem walk_big (s : ByteArray) (k : Nat) (hk : s.size = k) (hb : decide (5000 < k) = true) (hb' : decide ((5000 : Int) < (k : Int)) = true) (w : World) :
    Calls Try.prog 9 #[.string s] w fun e w' => e = .returned (.bool true) ∧ Ext w w' := by
  go_enter Try.func9, Try.ntmps9
  have hm := Mem.refl w []
  go_wp2_with ((first | refine wpList_skip (by rfl) ?_ | (refine wlL (hm := hm) (hu := by first | exact undPeer | exact undID | exact undLetter) (hi := by (try simp only [rowOf_size, idC_size, peerC_size, letC_size]); first | exact sizePeer | exact sizeID | exact sizeLetter) (h := ?_); (try simp only [Act.put, k1, k2, k3]); (try simp only [← peerV_eq, ← idV_eq, ← letV_eq])) | refine wlLC (hm := hm) (hv := by first | exact let0 _ | exact let1 _ | exact let22 _ | exact let43 _ | exact let44 _ | exact let45 _ | exact let66 _ | rfl) (hu := by first | exact undInt | exact undU64 | exact undBool | exact undIntS | exact undPeerS | exact undStr) (h := ?_) | (refine wlS (hm := hm) (hv := (by first | rfl | exact idV_eq _ | exact labV_eq _ _ | exact rectV_eq _ _ _ _ | exact peerV_eq _ _ | exact letV_eq _)) (hi := by (try simp only [rowOf_size, idC_size, peerC_size, letC_size]); first | exact sizePeer | exact sizeID | exact sizeLetter) (hs := by first | (simp only [rowOf_size, idC_size, peerC_size, letC_size]; done) | rfl) (h1 := by first | rfl | exact idC_one _ | exact letC_one _ | exact peerC_one _ _ | exact rowOf_one _ _ (fun _ _ => rfl) | (simp only [List.size_toArray, List.length_cons, List.all_toArray', List.all_cons, List.all_nil, Value.oneCell', Bool.and_true, Bool.and_self]; done) | (simp [Value.oneCell']; done)) (h := ?_); clear hm; intro w1 hm; (try simp only [rowOf_set, k1, k2, k3, Value.cells, Act.eval, k7, k8, k9, kA, Option.getD_some] at hm)) | (refine wlSC (hm := hm) (hi := by first | exact sizeInt | exact sizeU64 | exact sizeBool | exact sizeIntS | exact sizePeerS | exact sizeStr) (ho := by first | decide | (simp only [rowOf_size, idC_size, peerC_size, letC_size]; omega) | (simp; done)) (h := ?_); clear hm; intro w1 hm; (try simp only [rowOf_set, k1, k2, k3, Value.cells, Act.eval, k7, k8, k9, kA, Option.getD_some] at hm)) | (refine wlA (hz := by first | exact zeroPeer | exact zeroID | exact zeroLetter) (hm := hm) (h := ?_); clear hm; intro b1 w1 hm; (try simp only [rowOf_set, k1, k2, k3, Value.cells, Act.eval, k7, k8, k9, kA, Option.getD_some] at hm)) | (refine wl_box (by rfl) rfl (by first | exact peerV_cells _ _ | exact letV_cells _ | exact idV_cells _ | rfl) hm ?_; clear hm; intro b1 w1 hm) | (go_at_call 38; refine (lettered_c _).mono ?_; rintro e w1 ⟨rfl, hx⟩; replace hm := hm.call hx; clear hx) | (with_reducible first | refine stBs ?_ | refine stMs ?_ | refine stAp ?_ | refine stCo ?_)); (try simp only [k4, k5, k6, Act.put, k1, k2, k3]))
  go_ret
  exact ⟨rfl, hm.ext⟩
/-- The bytes are none. -/
theorem walk_no (s : ByteArray) (k : Nat) (y : Int) (hk : s.size = k) (hb : decide (5000 < k) = false) (hb' : decide ((5000 : Int) < (k : Int)) = false) (gn : GetN s y) (gm : RefN s y) (hy : y = 3 ∨ y = 4) (hq : Says 43 #[letV letZ, letV letZ] (.bool true)) (w : World) :
    Calls Try.prog 9 #[.string s] w fun e w' => e = .returned (.bool true) ∧ Ext w w' := by
  have GN := hid gn
  have GM := hid gm
  clear gn gm
  rcases hy with rfl | rfl <;> (
    go_enter Try.func9, Try.ntmps9
    have hm := Mem.refl w []
    go_wp2_with ((first | refine wpList_skip (by rfl) ?_ | (refine wlL (hm := hm) (hu := by first | exact undPeer | exact undID | exact undLetter) (hi := by (try simp only [rowOf_size, idC_size, peerC_size, letC_size]); first | exact sizePeer | exact sizeID | exact sizeLetter) (h := ?_); (try simp only [Act.put, k1, k2, k3]); (try simp only [← peerV_eq, ← idV_eq, ← letV_eq])) | refine wlLC (hm := hm) (hv := by first | exact let0 _ | exact let1 _ | exact let22 _ | exact let43 _ | exact let44 _ | exact let45 _ | exact let66 _ | rfl) (hu := by first | exact undInt | exact undU64 | exact undBool | exact undIntS | exact undPeerS | exact undStr) (h := ?_) | (refine wlS (hm := hm) (hv := (by first | rfl | exact idV_eq _ | exact labV_eq _ _ | exact rectV_eq _ _ _ _ | exact peerV_eq _ _ | exact letV_eq _)) (hi := by (try simp only [rowOf_size, idC_size, peerC_size, letC_size]); first | exact sizePeer | exact sizeID | exact sizeLetter) (hs := by first | (simp only [rowOf_size, idC_size, peerC_size, letC_size]; done) | rfl) (h1 := by first | rfl | exact idC_one _ | exact letC_one _ | exact peerC_one _ _ | exact rowOf_one _ _ (fun _ _ => rfl) | (simp only [List.size_toArray, List.length_cons, List.all_toArray', List.all_cons, List.all_nil, Value.oneCell', Bool.and_true, Bool.and_self]; done) | (simp [Value.oneCell']; done)) (h := ?_); clear hm; intro w1 hm; (try simp only [rowOf_set, k1, k2, k3, Value.cells, Act.eval, k7, k8, k9, kA, Option.getD_some] at hm)) | (refine wlSC (hm := hm) (hi := by first | exact sizeInt | exact sizeU64 | exact sizeBool | exact sizeIntS | exact sizePeerS | exact sizeStr) (ho := by first | decide | (simp only [rowOf_size, idC_size, peerC_size, letC_size]; omega) | (simp; done)) (h := ?_); clear hm; intro w1 hm; (try simp only [rowOf_set, k1, k2, k3, Value.cells, Act.eval, k7, k8, k9, kA, Option.getD_some] at hm)) | (refine wlA (hz := by first | exact zeroPeer | exact zeroID | exact zeroLetter) (hm := hm) (h := ?_); clear hm; intro b1 w1 hm; (try simp only [rowOf_set, k1, k2, k3, Value.cells, Act.eval, k7, k8, k9, kA, Option.getD_some] at hm)) | (refine wl_box (by rfl) rfl (by first | exact peerV_cells _ _ | exact letV_cells _ | exact idV_cells _ | rfl) hm ?_; clear hm; intro b1 w1 hm) | (go_at_call 41; refine (GN.out _).mono ?_; rintro e w1 ⟨rfl, hx⟩; replace hm := hm.call hx; clear hx) | (go_at_call 42; refine (GM.out _).mono ?_; rintro e w1 ⟨rfl, hx⟩; replace hm := hm.call hx; clear hx) | (go_at_call 38; refine (lettered_c _).mono ?_; rintro e w1 ⟨rfl, hx⟩; replace hm := hm.call hx; clear hx) | (go_at_call 43; refine (hq _).mono ?_; rintro e w1 ⟨rfl, hx⟩; replace hm := hm.call hx; clear hx) | (with_reducible first | refine stBs ?_ | refine stMs ?_ | refine stAp ?_ | refine stCo ?_)); (try simp only [k4, k5, k6, Act.put, k1, k2, k3]))
    go_ret
    exact ⟨rfl, hm.ext⟩)
/-- The bytes are a letter's. -/
theorem walk_yes (s : ByteArray) (k : Nat) (A : LA) (hk : s.size = k) (hb : decide (5000 < k) = false) (hb' : decide ((5000 : Int) < (k : Int)) = false) (gs : GetY s A) (gr : RefY s A)
    (HQ : Hid (∀ m S, IsL S m A → ∀ n S', IsL S' n A → ∀ w, LetAt w m (rowsA A) → LetAt w n (rowsA A) → Calls Try.prog 43 #[letV m, letV n] w fun e w' => e = .returned (.bool true) ∧ Ext w w')) (w : World) :
    Calls Try.prog 9 #[.string s] w fun e w' => e = .returned (.bool true) ∧ Ext w w' := by
  have GS := hid gs
  have GR := hid gr
  clear gs gr
  go_enter Try.func9, Try.ntmps9
  have hm := Mem.refl w []
  go_wp2_with ((first | refine wpList_skip (by rfl) ?_ | (refine wlL (hm := hm) (hu := by first | exact undPeer | exact undID | exact undLetter) (hi := by (try simp only [rowOf_size, idC_size, peerC_size, letC_size]); first | exact sizePeer | exact sizeID | exact sizeLetter) (h := ?_); (try simp only [Act.put, k1, k2, k3]); (try simp only [← peerV_eq, ← idV_eq, ← letV_eq])) | refine wlLC (hm := hm) (hv := by first | exact let0 _ | exact let1 _ | exact let22 _ | exact let43 _ | exact let44 _ | exact let45 _ | exact let66 _ | rfl) (hu := by first | exact undInt | exact undU64 | exact undBool | exact undIntS | exact undPeerS | exact undStr) (h := ?_) | (refine wlS (hm := hm) (hv := (by first | rfl | exact idV_eq _ | exact labV_eq _ _ | exact rectV_eq _ _ _ _ | exact peerV_eq _ _ | exact letV_eq _)) (hi := by (try simp only [rowOf_size, idC_size, peerC_size, letC_size]); first | exact sizePeer | exact sizeID | exact sizeLetter) (hs := by first | (simp only [rowOf_size, idC_size, peerC_size, letC_size]; done) | rfl) (h1 := by first | rfl | exact idC_one _ | exact letC_one _ | exact peerC_one _ _ | exact rowOf_one _ _ (fun _ _ => rfl) | (simp only [List.size_toArray, List.length_cons, List.all_toArray', List.all_cons, List.all_nil, Value.oneCell', Bool.and_true, Bool.and_self]; done) | (simp [Value.oneCell']; done)) (h := ?_); clear hm; intro w1 hm; (try simp only [rowOf_set, k1, k2, k3, Value.cells, Act.eval, k7, k8, k9, kA, Option.getD_some] at hm)) | (refine wlSC (hm := hm) (hi := by first | exact sizeInt | exact sizeU64 | exact sizeBool | exact sizeIntS | exact sizePeerS | exact sizeStr) (ho := by first | decide | (simp only [rowOf_size, idC_size, peerC_size, letC_size]; omega) | (simp; done)) (h := ?_); clear hm; intro w1 hm; (try simp only [rowOf_set, k1, k2, k3, Value.cells, Act.eval, k7, k8, k9, kA, Option.getD_some] at hm)) | (refine wlA (hz := by first | exact zeroPeer | exact zeroID | exact zeroLetter) (hm := hm) (h := ?_); clear hm; intro b1 w1 hm; (try simp only [rowOf_set, k1, k2, k3, Value.cells, Act.eval, k7, k8, k9, kA, Option.getD_some] at hm)) | (refine wl_box (by rfl) rfl (by first | exact peerV_cells _ _ | exact letV_cells _ | exact idV_cells _ | rfl) hm ?_; clear hm; intro b1 w1 hm) | (go_at_call 38; refine (lettered_c _).mono ?_; rintro e w1 ⟨rfl, hx⟩; replace hm := hm.call hx; clear hx) | (with_reducible first | refine stBs ?_ | refine stMs ?_ | refine stAp ?_ | refine stCo ?_)); (try simp only [k4, k5, k6, Act.put, k1, k2, k3]))
  refine (GS.out _).mono ?_
  rintro e w4 ⟨m, S1, rfl, hx, HI1⟩
  replace hm := Mem.callOwn (B := []) hm hx
  simp only [List.append_nil] at hm
  clear hx
  go_wp2_with ((first | refine wpList_skip (by rfl) ?_ | (refine wlL (hm := hm) (hu := by first | exact undPeer | exact undID | exact undLetter) (hi := by (try simp only [rowOf_size, idC_size, peerC_size, letC_size]); first | exact sizePeer | exact sizeID | exact sizeLetter) (h := ?_); (try simp only [Act.put, k1, k2, k3]); (try simp only [← peerV_eq, ← idV_eq, ← letV_eq])) | refine wlLC (hm := hm) (hv := by first | exact let0 _ | exact let1 _ | exact let22 _ | exact let43 _ | exact let44 _ | exact let45 _ | exact let66 _ | rfl) (hu := by first | exact undInt | exact undU64 | exact undBool | exact undIntS | exact undPeerS | exact undStr) (h := ?_) | (refine wlS (hm := hm) (hv := (by first | rfl | exact idV_eq _ | exact labV_eq _ _ | exact rectV_eq _ _ _ _ | exact peerV_eq _ _ | exact letV_eq _)) (hi := by (try simp only [rowOf_size, idC_size, peerC_size, letC_size]); first | exact sizePeer | exact sizeID | exact sizeLetter) (hs := by first | (simp only [rowOf_size, idC_size, peerC_size, letC_size]; done) | rfl) (h1 := by first | rfl | exact idC_one _ | exact letC_one _ | exact peerC_one _ _ | exact rowOf_one _ _ (fun _ _ => rfl) | (simp only [List.size_toArray, List.length_cons, List.all_toArray', List.all_cons, List.all_nil, Value.oneCell', Bool.and_true, Bool.and_self]; done) | (simp [Value.oneCell']; done)) (h := ?_); clear hm; intro w1 hm; (try simp only [rowOf_set, k1, k2, k3, Value.cells, Act.eval, k7, k8, k9, kA, Option.getD_some] at hm)) | (refine wlSC (hm := hm) (hi := by first | exact sizeInt | exact sizeU64 | exact sizeBool | exact sizeIntS | exact sizePeerS | exact sizeStr) (ho := by first | decide | (simp only [rowOf_size, idC_size, peerC_size, letC_size]; omega) | (simp; done)) (h := ?_); clear hm; intro w1 hm; (try simp only [rowOf_set, k1, k2, k3, Value.cells, Act.eval, k7, k8, k9, kA, Option.getD_some] at hm)) | (refine wlA (hz := by first | exact zeroPeer | exact zeroID | exact zeroLetter) (hm := hm) (h := ?_); clear hm; intro b1 w1 hm; (try simp only [rowOf_set, k1, k2, k3, Value.cells, Act.eval, k7, k8, k9, kA, Option.getD_some] at hm)) | (refine wl_box (by rfl) rfl (by first | exact peerV_cells _ _ | exact letV_cells _ | exact idV_cells _ | rfl) hm ?_; clear hm; intro b1 w1 hm) | (go_at_call 38; refine (lettered_c _).mono ?_; rintro e w1 ⟨rfl, hx⟩; replace hm := hm.call hx; clear hx) | (with_reducible first | refine stBs ?_ | refine stMs ?_ | refine stAp ?_ | refine stCo ?_)); (try simp only [k4, k5, k6, Act.put, k1, k2, k3]))
  refine (GR.out _).mono ?_
  rintro e w5 ⟨m2, S2, rfl, hx, HI2⟩
  replace hm := (Mem.callOwn (B := []) hm hx).perm (List.perm_append_comm (l₁ := S2) (l₂ := _ :: S1))
  simp only [List.cons_append, List.nil_append] at hm
  clear hx
  go_wp2_with ((first | refine wpList_skip (by rfl) ?_ | (refine wlL (hm := hm) (hu := by first | exact undPeer | exact undID | exact undLetter) (hi := by (try simp only [rowOf_size, idC_size, peerC_size, letC_size]); first | exact sizePeer | exact sizeID | exact sizeLetter) (h := ?_); (try simp only [Act.put, k1, k2, k3]); (try simp only [← peerV_eq, ← idV_eq, ← letV_eq])) | refine wlLC (hm := hm) (hv := by first | exact let0 _ | exact let1 _ | exact let22 _ | exact let43 _ | exact let44 _ | exact let45 _ | exact let66 _ | rfl) (hu := by first | exact undInt | exact undU64 | exact undBool | exact undIntS | exact undPeerS | exact undStr) (h := ?_) | (refine wlS (hm := hm) (hv := (by first | rfl | exact idV_eq _ | exact labV_eq _ _ | exact rectV_eq _ _ _ _ | exact peerV_eq _ _ | exact letV_eq _)) (hi := by (try simp only [rowOf_size, idC_size, peerC_size, letC_size]); first | exact sizePeer | exact sizeID | exact sizeLetter) (hs := by first | (simp only [rowOf_size, idC_size, peerC_size, letC_size]; done) | rfl) (h1 := by first | rfl | exact idC_one _ | exact letC_one _ | exact peerC_one _ _ | exact rowOf_one _ _ (fun _ _ => rfl) | (simp only [List.size_toArray, List.length_cons, List.all_toArray', List.all_cons, List.all_nil, Value.oneCell', Bool.and_true, Bool.and_self]; done) | (simp [Value.oneCell']; done)) (h := ?_); clear hm; intro w1 hm; (try simp only [rowOf_set, k1, k2, k3, Value.cells, Act.eval, k7, k8, k9, kA, Option.getD_some] at hm)) | (refine wlSC (hm := hm) (hi := by first | exact sizeInt | exact sizeU64 | exact sizeBool | exact sizeIntS | exact sizePeerS | exact sizeStr) (ho := by first | decide | (simp only [rowOf_size, idC_size, peerC_size, letC_size]; omega) | (simp; done)) (h := ?_); clear hm; intro w1 hm; (try simp only [rowOf_set, k1, k2, k3, Value.cells, Act.eval, k7, k8, k9, kA, Option.getD_some] at hm)) | (refine wlA (hz := by first | exact zeroPeer | exact zeroID | exact zeroLetter) (hm := hm) (h := ?_); clear hm; intro b1 w1 hm; (try simp only [rowOf_set, k1, k2, k3, Value.cells, Act.eval, k7, k8, k9, kA, Option.getD_some] at hm)) | (refine wl_box (by rfl) rfl (by first | exact peerV_cells _ _ | exact letV_cells _ | exact idV_cells _ | rfl) hm ?_; clear hm; intro b1 w1 hm) | (go_at_call 38; refine (lettered_c _).mono ?_; rintro e w1 ⟨rfl, hx⟩; replace hm := hm.call hx; clear hx) | (go_at_call 43; refine ((HQ.out _ _ HI1 _ _ HI2) _ (HI1.at (X := [_, _]) (Y := S2) hm) (isL_at2 HI2 (X := _ :: _ :: S1) hm)).mono ?_; rintro e w1 ⟨rfl, hx⟩; replace hm := hm.call hx; clear hx) | (with_reducible first | refine stBs ?_ | refine stMs ?_ | refine stAp ?_ | refine stCo ?_)); (try simp only [k4, k5, k6, Act.put, k1, k2, k3]))
  go_ret
  exact ⟨rfl, hm.ext⟩
theorem walk (s : ByteArray) (ws : s.size ≤ maxLen) (w : World) :
    Calls Try.prog 9 #[.string s] w fun e w' => e = .returned (.bool true) ∧ Ext w w' := by
  obtain ⟨k, hk⟩ : ∃ k, s.size = k := ⟨_, rfl⟩
  have hkk : decide ((5000 : Int) < (k : Int)) = decide (5000 < k) := by rw [decide_eq_decide]; omega
  cases x2 : decide (5000 < k) with
  | true =>
    rw [x2] at hkk
    exact walk_big s k hk x2 hkk w
  | false =>
  rw [x2] at hkk
  have hs : s.size < 2 ^ 61 := by
    have := of_decide_eq_false x2
    omega
  cases hg : getA s with
  | error y =>
    refine walk_no s k (y : Int) hk x2 hkk (getN_err hg) (refN_err hg hs) (by rcases er_get s y hg with rfl | rfl; exact .inl rfl; exact .inr rfl) (fun w => ?_) w
    have := same_c letZ letZ rows0 rows0 (by decide) (by decide) w (atZ w) (atZ w)
    rw [show sameLet letZ rows0 letZ rows0 = true by decide +kernel] at this
    exact this
  | ok A =>
    obtain ⟨_, ok⟩ := cn_get hg
    refine walk_yes s k A hk x2 hkk (getY_ok hg) (refY_ok hg hs) (hid fun m S hi n S' hi' w h1 h2 => ?_) w
    have e1 : sameLet m (rowsA A) n (rowsA A) = true := (same_iff (good_of (right_got hi ok)) (good_of (right_got hi' ok))).2 (by rw [laOf_got hi ok, laOf_got hi' ok])
    have := same_c m n (rowsA A) (rowsA A) (by rw [hi.an]; have := ok.an; omega) (by rw [hi.pn]; have := ok.pn; omega) w h1 h2
    rw [e1] at this
    exact this

set_option maxRecDepth 100000 in
theorem lifted (os : Os) (started : os.Started) (H : Type) (enc : TypeId × Value → H) :
    ReturnsInHanded {} Try.checked os 9 .any (Rows.letterGetsSpec.pre6 enc Try.prog Try.f9 Rows.letterGetsRow.domain false) (Rows.letterGetsSpec.post enc Try.prog Try.f9 false true false false) := by
  refine returnsInHanded_of_change (C := Try.checked) own started (by kernel_rfl) Try.func9
    (ChangeSpec.witness6 (enc := enc) (C := Try.checked) false ⟨#[], #[.string ByteArray.empty], []⟩ 8 (by kernel_rfl) (by kernel_rfl) (by kernel_rfl) (by kernel_rfl)) ?_
  intro W base args ds gs before hval0 hW hcnd _
  have hval : ∀ (j : Nat) t v, Try.f9.params[j]? = some t → args[j]? = some v → Value.okWide Try.prog W .any base t v := hval0
  have hW' := hW
  obtain ⟨p, q, hA0, hV, rfl, hfz, hnd⟩ := hW
  have hA : DataW.TrodAll enc Try.prog W 0 (fun _ => true) true Try.f9.params.toList args.toList ds p := hA0
  rw [Try.params9] at hA hval
  obtain ⟨v0, vs0, d0, ds0, p0, q0, hargs, rfl, rfl, h0, r0⟩ := trodAll_cons hA
  obtain ⟨rfl, rfl, rfl⟩ := trodAll_nil r0
  obtain rfl : args = #[v0] := by cases args; simp_all
  obtain ⟨rfl, rfl⟩ := trodVars_none hV
  have k0 := h0
  have lt0 : ∀ x ∈ p0, x.block < W.heap.size := by obtain ⟨m, hm⟩ := k0; exact DataW.trod_lt m _ _ _ hm
  obtain ⟨a0, rfl, _, _, w0⟩ := Go.ChangeMaps.open_string Try.underlying9 (hval 0 9 v0 rfl rfl) h0
  clear hA0 hval0
  refine (walk a0 w0 W).mono fun e W' ⟨he, ext⟩ => ?_
  subst he
  have bel := ext.below
  exact ⟨_, rfl, _, _, _, [], _, [], hW', trodAll_mk1 (shut_bool Try.underlying4 _), (trodAll_cons_mk (Below.trod laidOut (by kernel_rfl) (of_decide_eq_true (by kernel_rfl)) k0 bel lt0) trodAll_mk0), rfl, bel.frame _, fun h => by cases h⟩

theorem over : Rows.letterGetsRow.holds Try.pinned (OpenSpec.ofChange Rows.letterGetsSpec) :=
  OpenClaim.holds_of_wide 9 Try.f9 rfl rfl rfl rfl rfl rfl rfl ⟨rfl, rfl, rfl, rfl, rfl⟩ rfl rfl rfl rfl rfl (by kernel_rfl) Try.func9 (by kernel_rfl)
    (of_decide_eq_true (by kernel_rfl)) (by unfold Func.isWrapper; first | (rw [if_pos (by decide +kernel)]; kernel_rfl) | (rw [if_neg (by decide +kernel)]; exact ⟨rfl, rfl⟩))
    (fun os started H enc _ => lifted os started H enc)

theorem proved : Rows.LetterGetsSaid := over
#print axioms proved
end Go.Proofs.Ytijkmbebfodhdaa.lawEGets
