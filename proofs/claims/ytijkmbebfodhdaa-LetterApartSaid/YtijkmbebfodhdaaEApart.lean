/- For every two letters a and b the call LetterApart(a, b) returns true and leaves its arguments as they were: of two right letters the bytes are the same just if they are; none is the beginning of another one's. No condition. -/
import Derived.Test.YtijkmbebfodhdaaRows
import Derived.Test.YtijkmbebfodhdaaEApart5
namespace Go.Proofs.Ytijkmbebfodhdaa.lawEApart
open Go.ChangeShapes Go.WideShapes Go.ChangeAt Go.RowKit
set_option linter.unusedSimpArgs false
set_option linter.unusedVariables false
set_option maxHeartbeats 4000000
set_option maxRecDepth 20000
attribute [local irreducible] wpQuiet wpList wpAnyH Calls

theorem walk_big (l m : Let) (xa xb : Bool) (h : (xa || xb) = true) (ha : Says 35 #[letV l] (.bool xa)) (hb : Says 35 #[letV m] (.bool xb)) (w : World) :
    Calls Try.prog 12 #[letV l, letV m] w fun e w' => e = .returned (.bool true) ∧ Ext w w' := by
  rcases xa with _ | _
  · obtain rfl : xb = true := by simpa using h
    clear h
    go_enter Try.func12, Try.ntmps12
    have hm := Mem.refl w []
    go_wp2_with ((first | refine wpList_skip (by rfl) ?_ | (refine wlL (hm := hm) (hu := by first | exact undPeer | exact undID | exact undLetter) (hi := by (try simp only [rowOf_size, idC_size, peerC_size, letC_size]); first | exact sizePeer | exact sizeID | exact sizeLetter) (h := ?_); (try simp only [Act.put, k1, k2, k3]); (try simp only [← peerV_eq, ← idV_eq, ← letV_eq])) | refine wlLC (hm := hm) (hv := by first | exact let0 _ | exact let1 _ | exact let22 _ | exact let43 _ | exact let44 _ | exact let45 _ | exact let66 _ | rfl) (hu := by first | exact undInt | exact undU64 | exact undBool | exact undIntS | exact undPeerS | exact undStr) (h := ?_) | (refine wlS (hm := hm) (hv := (by first | rfl | exact idV_eq _ | exact labV_eq _ _ | exact rectV_eq _ _ _ _ | exact peerV_eq _ _ | exact letV_eq _)) (hi := by (try simp only [rowOf_size, idC_size, peerC_size, letC_size]); first | exact sizePeer | exact sizeID | exact sizeLetter) (hs := by first | (simp only [rowOf_size, idC_size, peerC_size, letC_size]; done) | rfl) (h1 := by first | rfl | exact idC_one _ | exact letC_one _ | exact peerC_one _ _ | exact rowOf_one _ _ (fun _ _ => rfl) | (simp only [List.size_toArray, List.length_cons, List.all_toArray', List.all_cons, List.all_nil, Value.oneCell', Bool.and_true, Bool.and_self]; done) | (simp [Value.oneCell']; done)) (h := ?_); clear hm; intro w1 hm; (try simp only [rowOf_set, k1, k2, k3, Value.cells, Act.eval, k7, k8, k9, kA, Option.getD_some] at hm)) | (refine wlSC (hm := hm) (hi := by first | exact sizeInt | exact sizeU64 | exact sizeBool | exact sizeIntS | exact sizePeerS | exact sizeStr) (ho := by first | decide | (simp only [rowOf_size, idC_size, peerC_size, letC_size]; omega) | (simp; done)) (h := ?_); clear hm; intro w1 hm; (try simp only [rowOf_set, k1, k2, k3, Value.cells, Act.eval, k7, k8, k9, kA, Option.getD_some] at hm)) | (refine wlA (hz := by first | exact zeroPeer | exact zeroID | exact zeroLetter) (hm := hm) (h := ?_); clear hm; intro b1 w1 hm; (try simp only [rowOf_set, k1, k2, k3, Value.cells, Act.eval, k7, k8, k9, kA, Option.getD_some] at hm)) | (refine wl_box (by rfl) rfl (by first | exact peerV_cells _ _ | exact letV_cells _ | exact idV_cells _ | rfl) hm ?_; clear hm; intro b1 w1 hm) | (go_at_call 35; refine (ha _).mono ?_; rintro e w1 ⟨rfl, hx⟩; replace hm := hm.call hx; clear hx) | (go_at_call 35; refine (hb _).mono ?_; rintro e w1 ⟨rfl, hx⟩; replace hm := hm.call hx; clear hx) | (with_reducible first | refine stBs ?_ | refine stMs ?_ | refine stAp ?_ | refine stCo ?_)); (try simp only [k4, k5, k6, Act.put, k1, k2, k3]))
    go_ret
    exact ⟨rfl, hm.ext⟩
  · clear h
    go_enter Try.func12, Try.ntmps12
    have hm := Mem.refl w []
    go_wp2_with ((first | refine wpList_skip (by rfl) ?_ | (refine wlL (hm := hm) (hu := by first | exact undPeer | exact undID | exact undLetter) (hi := by (try simp only [rowOf_size, idC_size, peerC_size, letC_size]); first | exact sizePeer | exact sizeID | exact sizeLetter) (h := ?_); (try simp only [Act.put, k1, k2, k3]); (try simp only [← peerV_eq, ← idV_eq, ← letV_eq])) | refine wlLC (hm := hm) (hv := by first | exact let0 _ | exact let1 _ | exact let22 _ | exact let43 _ | exact let44 _ | exact let45 _ | exact let66 _ | rfl) (hu := by first | exact undInt | exact undU64 | exact undBool | exact undIntS | exact undPeerS | exact undStr) (h := ?_) | (refine wlS (hm := hm) (hv := (by first | rfl | exact idV_eq _ | exact labV_eq _ _ | exact rectV_eq _ _ _ _ | exact peerV_eq _ _ | exact letV_eq _)) (hi := by (try simp only [rowOf_size, idC_size, peerC_size, letC_size]); first | exact sizePeer | exact sizeID | exact sizeLetter) (hs := by first | (simp only [rowOf_size, idC_size, peerC_size, letC_size]; done) | rfl) (h1 := by first | rfl | exact idC_one _ | exact letC_one _ | exact peerC_one _ _ | exact rowOf_one _ _ (fun _ _ => rfl) | (simp only [List.size_toArray, List.length_cons, List.all_toArray', List.all_cons, List.all_nil, Value.oneCell', Bool.and_true, Bool.and_self]; done) | (simp [Value.oneCell']; done)) (h := ?_); clear hm; intro w1 hm; (try simp only [rowOf_set, k1, k2, k3, Value.cells, Act.eval, k7, k8, k9, kA, Option.getD_some] at hm)) | (refine wlSC (hm := hm) (hi := by first | exact sizeInt | exact sizeU64 | exact sizeBool | exact sizeIntS | exact sizePeerS | exact sizeStr) (ho := by first | decide | (simp only [rowOf_size, idC_size, peerC_size, letC_size]; omega) | (simp; done)) (h := ?_); clear hm; intro w1 hm; (try simp only [rowOf_set, k1, k2, k3, Value.cells, Act.eval, k7, k8, k9, kA, Option.getD_some] at hm)) | (refine wlA (hz := by first | exact zeroPeer | exact zeroID | exact zeroLetter) (hm := hm) (h := ?_); clear hm; intro b1 w1 hm; (try simp only [rowOf_set, k1, k2, k3, Value.cells, Act.eval, k7, k8, k9, kA, Option.getD_some] at hm)) | (refine wl_box (by rfl) rfl (by first | exact peerV_cells _ _ | exact letV_cells _ | exact idV_cells _ | rfl) hm ?_; clear hm; intro b1 w1 hm) | (go_at_call 35; refine (ha _).mono ?_; rintro e w1 ⟨rfl, hx⟩; replace hm := hm.call hx; clear hx) | (go_at_call 35; refine (hb _).mono ?_; rintro e w1 ⟨rfl, hx⟩; replace hm := hm.call hx; clear hx) | (with_reducible first | refine stBs ?_ | refine stMs ?_ | refine stAp ?_ | refine stCo ?_)); (try simp only [k4, k5, k6, Act.put, k1, k2, k3]))
    go_ret
    exact ⟨rfl, hm.ext⟩
/-- What Put answers of a letter in any world that has its slices. -/
def Puts (l : Let) (r : Rows5) (s : ByteArray) (x : Int) : Prop := ∀ w, LetAt w l r → Calls Try.prog 36 #[letV l] w fun e w' => e = .returned (.tuple #[.string s, .int .i64 x]) ∧ Ext w w'
theorem walk_no1 (l m : Let) (r n : Rows5) (s t : ByteArray) (y : Int) (ha : Says 35 #[letV l] (.bool false)) (hb : Says 35 #[letV m] (.bool false)) (pa : Puts l r s 1) (pb : Puts m n t y) (w : World) (hl : LetAt w l r) (hmm : LetAt w m n) :
    Calls Try.prog 12 #[letV l, letV m] w fun e w' => e = .returned (.bool true) ∧ Ext w w' := by
  have HL := hid hl
  have HM := hid hmm
  clear hl hmm
  go_enter Try.func12, Try.ntmps12
  have hm := Mem.refl w []
  go_wp2_with ((first | refine wpList_skip (by rfl) ?_ | (refine wlL (hm := hm) (hu := by first | exact undPeer | exact undID | exact undLetter) (hi := by (try simp only [rowOf_size, idC_size, peerC_size, letC_size]); first | exact sizePeer | exact sizeID | exact sizeLetter) (h := ?_); (try simp only [Act.put, k1, k2, k3]); (try simp only [← peerV_eq, ← idV_eq, ← letV_eq])) | refine wlLC (hm := hm) (hv := by first | exact let0 _ | exact let1 _ | exact let22 _ | exact let43 _ | exact let44 _ | exact let45 _ | exact let66 _ | rfl) (hu := by first | exact undInt | exact undU64 | exact undBool | exact undIntS | exact undPeerS | exact undStr) (h := ?_) | (refine wlS (hm := hm) (hv := (by first | rfl | exact idV_eq _ | exact labV_eq _ _ | exact rectV_eq _ _ _ _ | exact peerV_eq _ _ | exact letV_eq _)) (hi := by (try simp only [rowOf_size, idC_size, peerC_size, letC_size]); first | exact sizePeer | exact sizeID | exact sizeLetter) (hs := by first | (simp only [rowOf_size, idC_size, peerC_size, letC_size]; done) | rfl) (h1 := by first | rfl | exact idC_one _ | exact letC_one _ | exact peerC_one _ _ | exact rowOf_one _ _ (fun _ _ => rfl) | (simp only [List.size_toArray, List.length_cons, List.all_toArray', List.all_cons, List.all_nil, Value.oneCell', Bool.and_true, Bool.and_self]; done) | (simp [Value.oneCell']; done)) (h := ?_); clear hm; intro w1 hm; (try simp only [rowOf_set, k1, k2, k3, Value.cells, Act.eval, k7, k8, k9, kA, Option.getD_some] at hm)) | (refine wlSC (hm := hm) (hi := by first | exact sizeInt | exact sizeU64 | exact sizeBool | exact sizeIntS | exact sizePeerS | exact sizeStr) (ho := by first | decide | (simp only [rowOf_size, idC_size, peerC_size, letC_size]; omega) | (simp; done)) (h := ?_); clear hm; intro w1 hm; (try simp only [rowOf_set, k1, k2, k3, Value.cells, Act.eval, k7, k8, k9, kA, Option.getD_some] at hm)) | (refine wlA (hz := by first | exact zeroPeer | exact zeroID | exact zeroLetter) (hm := hm) (h := ?_); clear hm; intro b1 w1 hm; (try simp only [rowOf_set, k1, k2, k3, Value.cells, Act.eval, k7, k8, k9, kA, Option.getD_some] at hm)) | (refine wl_box (by rfl) rfl (by first | exact peerV_cells _ _ | exact letV_cells _ | exact idV_cells _ | rfl) hm ?_; clear hm; intro b1 w1 hm) | (go_at_call 35; refine (ha _).mono ?_; rintro e w1 ⟨rfl, hx⟩; replace hm := hm.call hx; clear hx) | (go_at_call 35; refine (hb _).mono ?_; rintro e w1 ⟨rfl, hx⟩; replace hm := hm.call hx; clear hx) | (go_at_call 36; refine (pa _ (HL.out.old hm)).mono ?_; rintro e w1 ⟨rfl, hx⟩; replace hm := hm.call hx; clear hx) | (go_at_call 36; refine (pb _ (HM.out.old hm)).mono ?_; rintro e w1 ⟨rfl, hx⟩; replace hm := hm.call hx; clear hx) | (go_at_call 38; refine (lettered_c _).mono ?_; rintro e w1 ⟨rfl, hx⟩; replace hm := hm.call hx; clear hx) | (go_at_call 43; refine (hs _ (HL.out.old hm) (HM.out.old hm)).mono ?_; rintro e w1 ⟨rfl, hx⟩; replace hm := hm.call hx; clear hx) | (with_reducible first | refine stBs ?_ | refine stMs ?_ | refine stAp ?_ | refine stCo ?_)); (try simp only [k4, k5, k6, Act.put, k1, k2, k3]))
  go_ret
  exact ⟨rfl, hm.ext⟩
theorem walk_no2 (l m : Let) (r n : Rows5) (s t : ByteArray) (ha : Says 35 #[letV l] (.bool false)) (hb : Says 35 #[letV m] (.bool false)) (pa : Puts l r s 0) (pb : Puts m n t 1) (w : World) (hl : LetAt w l r) (hmm : LetAt w m n) :
    Calls Try.prog 12 #[letV l, letV m] w fun e w' => e = .returned (.bool true) ∧ Ext w w' := by
  have HL := hid hl
  have HM := hid hmm
  clear hl hmm
  go_enter Try.func12, Try.ntmps12
  have hm := Mem.refl w []
  go_wp2_with ((first | refine wpList_skip (by rfl) ?_ | (refine wlL (hm := hm) (hu := by first | exact undPeer | exact undID | exact undLetter) (hi := by (try simp only [rowOf_size, idC_size, peerC_size, letC_size]); first | exact sizePeer | exact sizeID | exact sizeLetter) (h := ?_); (try simp only [Act.put, k1, k2, k3]); (try simp only [← peerV_eq, ← idV_eq, ← letV_eq])) | refine wlLC (hm := hm) (hv := by first | exact let0 _ | exact let1 _ | exact let22 _ | exact let43 _ | exact let44 _ | exact let45 _ | exact let66 _ | rfl) (hu := by first | exact undInt | exact undU64 | exact undBool | exact undIntS | exact undPeerS | exact undStr) (h := ?_) | (refine wlS (hm := hm) (hv := (by first | rfl | exact idV_eq _ | exact labV_eq _ _ | exact rectV_eq _ _ _ _ | exact peerV_eq _ _ | exact letV_eq _)) (hi := by (try simp only [rowOf_size, idC_size, peerC_size, letC_size]); first | exact sizePeer | exact sizeID | exact sizeLetter) (hs := by first | (simp only [rowOf_size, idC_size, peerC_size, letC_size]; done) | rfl) (h1 := by first | rfl | exact idC_one _ | exact letC_one _ | exact peerC_one _ _ | exact rowOf_one _ _ (fun _ _ => rfl) | (simp only [List.size_toArray, List.length_cons, List.all_toArray', List.all_cons, List.all_nil, Value.oneCell', Bool.and_true, Bool.and_self]; done) | (simp [Value.oneCell']; done)) (h := ?_); clear hm; intro w1 hm; (try simp only [rowOf_set, k1, k2, k3, Value.cells, Act.eval, k7, k8, k9, kA, Option.getD_some] at hm)) | (refine wlSC (hm := hm) (hi := by first | exact sizeInt | exact sizeU64 | exact sizeBool | exact sizeIntS | exact sizePeerS | exact sizeStr) (ho := by first | decide | (simp only [rowOf_size, idC_size, peerC_size, letC_size]; omega) | (simp; done)) (h := ?_); clear hm; intro w1 hm; (try simp only [rowOf_set, k1, k2, k3, Value.cells, Act.eval, k7, k8, k9, kA, Option.getD_some] at hm)) | (refine wlA (hz := by first | exact zeroPeer | exact zeroID | exact zeroLetter) (hm := hm) (h := ?_); clear hm; intro b1 w1 hm; (try simp only [rowOf_set, k1, k2, k3, Value.cells, Act.eval, k7, k8, k9, kA, Option.getD_some] at hm)) | (refine wl_box (by rfl) rfl (by first | exact peerV_cells _ _ | exact letV_cells _ | exact idV_cells _ | rfl) hm ?_; clear hm; intro b1 w1 hm) | (go_at_call 35; refine (ha _).mono ?_; rintro e w1 ⟨rfl, hx⟩; replace hm := hm.call hx; clear hx) | (go_at_call 35; refine (hb _).mono ?_; rintro e w1 ⟨rfl, hx⟩; replace hm := hm.call hx; clear hx) | (go_at_call 36; refine (pa _ (HL.out.old hm)).mono ?_; rintro e w1 ⟨rfl, hx⟩; replace hm := hm.call hx; clear hx) | (go_at_call 36; refine (pb _ (HM.out.old hm)).mono ?_; rintro e w1 ⟨rfl, hx⟩; replace hm := hm.call hx; clear hx) | (go_at_call 38; refine (lettered_c _).mono ?_; rintro e w1 ⟨rfl, hx⟩; replace hm := hm.call hx; clear hx) | (go_at_call 43; refine (hs _ (HL.out.old hm) (HM.out.old hm)).mono ?_; rintro e w1 ⟨rfl, hx⟩; replace hm := hm.call hx; clear hx) | (with_reducible first | refine stBs ?_ | refine stMs ?_ | refine stAp ?_ | refine stCo ?_)); (try simp only [k4, k5, k6, Act.put, k1, k2, k3]))
  go_ret
  exact ⟨rfl, hm.ext⟩
theorem walk_gt (l m : Let) (r n : Rows5) (s t : ByteArray) (a b : Nat) (hsa : s.size = a) (htb : t.size = b) (g1 : decide (a ≤ b) = false) (hq : (s.toList == t.toList) = false) (ha : Says 35 #[letV l] (.bool false)) (hb : Says 35 #[letV m] (.bool false)) (pa : Puts l r s 0) (pb : Puts m n t 0)
    (hs : ∀ w, LetAt w l r → LetAt w m n → Calls Try.prog 43 #[letV l, letV m] w fun e w' => e = .returned (.bool false) ∧ Ext w w') (w : World) (hl : LetAt w l r) (hmm : LetAt w m n) :
    Calls Try.prog 12 #[letV l, letV m] w fun e w' => e = .returned (.bool true) ∧ Ext w w' := by
  have HL := hid hl
  have HM := hid hmm
  clear hl hmm
  go_enter Try.func12, Try.ntmps12
  have hm := Mem.refl w []
  go_wp2_with ((first | refine wpList_skip (by rfl) ?_ | (refine wlL (hm := hm) (hu := by first | exact undPeer | exact undID | exact undLetter) (hi := by (try simp only [rowOf_size, idC_size, peerC_size, letC_size]); first | exact sizePeer | exact sizeID | exact sizeLetter) (h := ?_); (try simp only [Act.put, k1, k2, k3]); (try simp only [← peerV_eq, ← idV_eq, ← letV_eq])) | refine wlLC (hm := hm) (hv := by first | exact let0 _ | exact let1 _ | exact let22 _ | exact let43 _ | exact let44 _ | exact let45 _ | exact let66 _ | rfl) (hu := by first | exact undInt | exact undU64 | exact undBool | exact undIntS | exact undPeerS | exact undStr) (h := ?_) | (refine wlS (hm := hm) (hv := (by first | rfl | exact idV_eq _ | exact labV_eq _ _ | exact rectV_eq _ _ _ _ | exact peerV_eq _ _ | exact letV_eq _)) (hi := by (try simp only [rowOf_size, idC_size, peerC_size, letC_size]); first | exact sizePeer | exact sizeID | exact sizeLetter) (hs := by first | (simp only [rowOf_size, idC_size, peerC_size, letC_size]; done) | rfl) (h1 := by first | rfl | exact idC_one _ | exact letC_one _ | exact peerC_one _ _ | exact rowOf_one _ _ (fun _ _ => rfl) | (simp only [List.size_toArray, List.length_cons, List.all_toArray', List.all_cons, List.all_nil, Value.oneCell', Bool.and_true, Bool.and_self]; done) | (simp [Value.oneCell']; done)) (h := ?_); clear hm; intro w1 hm; (try simp only [rowOf_set, k1, k2, k3, Value.cells, Act.eval, k7, k8, k9, kA, Option.getD_some] at hm)) | (refine wlSC (hm := hm) (hi := by first | exact sizeInt | exact sizeU64 | exact sizeBool | exact sizeIntS | exact sizePeerS | exact sizeStr) (ho := by first | decide | (simp only [rowOf_size, idC_size, peerC_size, letC_size]; omega) | (simp; done)) (h := ?_); clear hm; intro w1 hm; (try simp only [rowOf_set, k1, k2, k3, Value.cells, Act.eval, k7, k8, k9, kA, Option.getD_some] at hm)) | (refine wlA (hz := by first | exact zeroPeer | exact zeroID | exact zeroLetter) (hm := hm) (h := ?_); clear hm; intro b1 w1 hm; (try simp only [rowOf_set, k1, k2, k3, Value.cells, Act.eval, k7, k8, k9, kA, Option.getD_some] at hm)) | (refine wl_box (by rfl) rfl (by first | exact peerV_cells _ _ | exact letV_cells _ | exact idV_cells _ | rfl) hm ?_; clear hm; intro b1 w1 hm) | (go_at_call 35; refine (ha _).mono ?_; rintro e w1 ⟨rfl, hx⟩; replace hm := hm.call hx; clear hx) | (go_at_call 35; refine (hb _).mono ?_; rintro e w1 ⟨rfl, hx⟩; replace hm := hm.call hx; clear hx) | (go_at_call 36; refine (pa _ (HL.out.old hm)).mono ?_; rintro e w1 ⟨rfl, hx⟩; replace hm := hm.call hx; clear hx) | (go_at_call 36; refine (pb _ (HM.out.old hm)).mono ?_; rintro e w1 ⟨rfl, hx⟩; replace hm := hm.call hx; clear hx) | (go_at_call 38; refine (lettered_c _).mono ?_; rintro e w1 ⟨rfl, hx⟩; replace hm := hm.call hx; clear hx) | (go_at_call 43; refine (hs _ (HL.out.old hm) (HM.out.old hm)).mono ?_; rintro e w1 ⟨rfl, hx⟩; replace hm := hm.call hx; clear hx) | (with_reducible first | refine stBs ?_ | refine stMs ?_ | refine stAp ?_ | refine stCo ?_)); (try simp only [k4, k5, k6, Act.put, k1, k2, k3]))
  go_ret
  exact ⟨rfl, hm.ext⟩
theorem walk_le (l m : Let) (r n : Rows5) (s t u : ByteArray) (a b : Nat) (q : Bool) (hsa : s.size = a) (htb : t.size = b) (hab : a ≤ b) (hu : t.extract 0 a = u) (hq : (s.toList == t.toList) = q) (hq2 : (u.toList == s.toList) = q) (ha : Says 35 #[letV l] (.bool false)) (hb : Says 35 #[letV m] (.bool false)) (pa : Puts l r s 0) (pb : Puts m n t 0)
    (hs : ∀ w, LetAt w l r → LetAt w m n → Calls Try.prog 43 #[letV l, letV m] w fun e w' => e = .returned (.bool q) ∧ Ext w w') (w : World) (hl : LetAt w l r) (hmm : LetAt w m n) :
    Calls Try.prog 12 #[letV l, letV m] w fun e w' => e = .returned (.bool true) ∧ Ext w w' := by
  have HL := hid hl
  have HM := hid hmm
  have c1 := slice_to (s := t) (t := u) (n := a) (by omega) hu
  have g1 : decide (a ≤ b) = true := decide_eq_true hab
  clear hl hmm hab hu
  cases q with
  | true =>
    go_enter Try.func12, Try.ntmps12
    have hm := Mem.refl w []
    go_wp2_with ((first | refine wpList_skip (by rfl) ?_ | (refine wlL (hm := hm) (hu := by first | exact undPeer | exact undID | exact undLetter) (hi := by (try simp only [rowOf_size, idC_size, peerC_size, letC_size]); first | exact sizePeer | exact sizeID | exact sizeLetter) (h := ?_); (try simp only [Act.put, k1, k2, k3]); (try simp only [← peerV_eq, ← idV_eq, ← letV_eq])) | refine wlLC (hm := hm) (hv := by first | exact let0 _ | exact let1 _ | exact let22 _ | exact let43 _ | exact let44 _ | exact let45 _ | exact let66 _ | rfl) (hu := by first | exact undInt | exact undU64 | exact undBool | exact undIntS | exact undPeerS | exact undStr) (h := ?_) | (refine wlS (hm := hm) (hv := (by first | rfl | exact idV_eq _ | exact labV_eq _ _ | exact rectV_eq _ _ _ _ | exact peerV_eq _ _ | exact letV_eq _)) (hi := by (try simp only [rowOf_size, idC_size, peerC_size, letC_size]); first | exact sizePeer | exact sizeID | exact sizeLetter) (hs := by first | (simp only [rowOf_size, idC_size, peerC_size, letC_size]; done) | rfl) (h1 := by first | rfl | exact idC_one _ | exact letC_one _ | exact peerC_one _ _ | exact rowOf_one _ _ (fun _ _ => rfl) | (simp only [List.size_toArray, List.length_cons, List.all_toArray', List.all_cons, List.all_nil, Value.oneCell', Bool.and_true, Bool.and_self]; done) | (simp [Value.oneCell']; done)) (h := ?_); clear hm; intro w1 hm; (try simp only [rowOf_set, k1, k2, k3, Value.cells, Act.eval, k7, k8, k9, kA, Option.getD_some] at hm)) | (refine wlSC (hm := hm) (hi := by first | exact sizeInt | exact sizeU64 | exact sizeBool | exact sizeIntS | exact sizePeerS | exact sizeStr) (ho := by first | decide | (simp only [rowOf_size, idC_size, peerC_size, letC_size]; omega) | (simp; done)) (h := ?_); clear hm; intro w1 hm; (try simp only [rowOf_set, k1, k2, k3, Value.cells, Act.eval, k7, k8, k9, kA, Option.getD_some] at hm)) | (refine wlA (hz := by first | exact zeroPeer | exact zeroID | exact zeroLetter) (hm := hm) (h := ?_); clear hm; intro b1 w1 hm; (try simp only [rowOf_set, k1, k2, k3, Value.cells, Act.eval, k7, k8, k9, kA, Option.getD_some] at hm)) | (refine wl_box (by rfl) rfl (by first | exact peerV_cells _ _ | exact letV_cells _ | exact idV_cells _ | rfl) hm ?_; clear hm; intro b1 w1 hm) | (go_at_call 35; refine (ha _).mono ?_; rintro e w1 ⟨rfl, hx⟩; replace hm := hm.call hx; clear hx) | (go_at_call 35; refine (hb _).mono ?_; rintro e w1 ⟨rfl, hx⟩; replace hm := hm.call hx; clear hx) | (go_at_call 36; refine (pa _ (HL.out.old hm)).mono ?_; rintro e w1 ⟨rfl, hx⟩; replace hm := hm.call hx; clear hx) | (go_at_call 36; refine (pb _ (HM.out.old hm)).mono ?_; rintro e w1 ⟨rfl, hx⟩; replace hm := hm.call hx; clear hx) | (go_at_call 38; refine (lettered_c _).mono ?_; rintro e w1 ⟨rfl, hx⟩; replace hm := hm.call hx; clear hx) | (go_at_call 43; refine (hs _ (HL.out.old hm) (HM.out.old hm)).mono ?_; rintro e w1 ⟨rfl, hx⟩; replace hm := hm.call hx; clear hx) | (with_reducible first | refine stBs ?_ | refine stMs ?_ | refine stAp ?_ | refine stCo ?_)); (try simp only [k4, k5, k6, Act.put, k1, k2, k3]))
    go_ret
    exact ⟨rfl, hm.ext⟩
  | false =>
    go_enter Try.func12, Try.ntmps12
    have hm := Mem.refl w []
    go_wp2_with ((first | refine wpList_skip (by rfl) ?_ | (refine wlL (hm := hm) (hu := by first | exact undPeer | exact undID | exact undLetter) (hi := by (try simp only [rowOf_size, idC_size, peerC_size, letC_size]); first | exact sizePeer | exact sizeID | exact sizeLetter) (h := ?_); (try simp only [Act.put, k1, k2, k3]); (try simp only [← peerV_eq, ← idV_eq, ← letV_eq])) | refine wlLC (hm := hm) (hv := by first | exact let0 _ | exact let1 _ | exact let22 _ | exact let43 _ | exact let44 _ | exact let45 _ | exact let66 _ | rfl) (hu := by first | exact undInt | exact undU64 | exact undBool | exact undIntS | exact undPeerS | exact undStr) (h := ?_) | (refine wlS (hm := hm) (hv := (by first | rfl | exact idV_eq _ | exact labV_eq _ _ | exact rectV_eq _ _ _ _ | exact peerV_eq _ _ | exact letV_eq _)) (hi := by (try simp only [rowOf_size, idC_size, peerC_size, letC_size]); first | exact sizePeer | exact sizeID | exact sizeLetter) (hs := by first | (simp only [rowOf_size, idC_size, peerC_size, letC_size]; done) | rfl) (h1 := by first | rfl | exact idC_one _ | exact letC_one _ | exact peerC_one _ _ | exact rowOf_one _ _ (fun _ _ => rfl) | (simp only [List.size_toArray, List.length_cons, List.all_toArray', List.all_cons, List.all_nil, Value.oneCell', Bool.and_true, Bool.and_self]; done) | (simp [Value.oneCell']; done)) (h := ?_); clear hm; intro w1 hm; (try simp only [rowOf_set, k1, k2, k3, Value.cells, Act.eval, k7, k8, k9, kA, Option.getD_some] at hm)) | (refine wlSC (hm := hm) (hi := by first | exact sizeInt | exact sizeU64 | exact sizeBool | exact sizeIntS | exact sizePeerS | exact sizeStr) (ho := by first | decide | (simp only [rowOf_size, idC_size, peerC_size, letC_size]; omega) | (simp; done)) (h := ?_); clear hm; intro w1 hm; (try simp only [rowOf_set, k1, k2, k3, Value.cells, Act.eval, k7, k8, k9, kA, Option.getD_some] at hm)) | (refine wlA (hz := by first | exact zeroPeer | exact zeroID | exact zeroLetter) (hm := hm) (h := ?_); clear hm; intro b1 w1 hm; (try simp only [rowOf_set, k1, k2, k3, Value.cells, Act.eval, k7, k8, k9, kA, Option.getD_some] at hm)) | (refine wl_box (by rfl) rfl (by first | exact peerV_cells _ _ | exact letV_cells _ | exact idV_cells _ | rfl) hm ?_; clear hm; intro b1 w1 hm) | (go_at_call 35; refine (ha _).mono ?_; rintro e w1 ⟨rfl, hx⟩; replace hm := hm.call hx; clear hx) | (go_at_call 35; refine (hb _).mono ?_; rintro e w1 ⟨rfl, hx⟩; replace hm := hm.call hx; clear hx) | (go_at_call 36; refine (pa _ (HL.out.old hm)).mono ?_; rintro e w1 ⟨rfl, hx⟩; replace hm := hm.call hx; clear hx) | (go_at_call 36; refine (pb _ (HM.out.old hm)).mono ?_; rintro e w1 ⟨rfl, hx⟩; replace hm := hm.call hx; clear hx) | (go_at_call 38; refine (lettered_c _).mono ?_; rintro e w1 ⟨rfl, hx⟩; replace hm := hm.call hx; clear hx) | (go_at_call 43; refine (hs _ (HL.out.old hm) (HM.out.old hm)).mono ?_; rintro e w1 ⟨rfl, hx⟩; replace hm := hm.call hx; clear hx) | (with_reducible first | refine stBs ?_ | refine stMs ?_ | refine stAp ?_ | refine stCo ?_)); (try simp only [k4, k5, k6, Act.put, k1, k2, k3]))
    go_ret
    exact ⟨rfl, hm.ext⟩
theorem walk (l : Let) (r : Rows5) (q1 : l.req < 2 ^ 64) (m : Let) (n : Rows5) (q2 : m.req < 2 ^ 64) (w : World) (hl : LetAt w l r) (hmm : LetAt w m n) :
    Calls Try.prog 12 #[letV l, letV m] w fun e w' => e = .returned (.bool true) ∧ Ext w w' := by
  have b1 := big_c l
  have b2 := big_c m
  cases x1 : (decide (60 < l.an) || decide (60 < l.pn)) with
  | true => exact walk_big l m _ _ (by rw [x1]; rfl) b1 b2 w
  | false =>
  cases x2 : (decide (60 < m.an) || decide (60 < m.pn)) with
  | true => exact walk_big l m _ _ (by rw [x2, Bool.or_true]) b1 b2 w
  | false =>
  rw [x1] at b1
  rw [x2] at b2
  simp only [Bool.or_eq_false_iff, decide_eq_false_iff_not] at x1 x2
  cases r1 : rightL l r with
  | false =>
    have pa : Puts l r { data := #[] } 1 := fun w hl => lput_no (by omega) (by omega) r1 w hl
    cases r2 : rightL m n with
    | false => exact walk_no1 l m r n _ _ _ b1 b2 pa (fun w hl => lput_no (by omega) (by omega) r2 w hl) w hl hmm
    | true => exact walk_no1 l m r n _ _ _ b1 b2 pa (fun w hl => lput_yes q2 r2 w hl) w hl hmm
  | true =>
    have pa : Puts l r (putA (laOf l r)) 0 := fun w hl => lput_yes q1 r1 w hl
    cases r2 : rightL m n with
    | false => exact walk_no2 l m r n _ _ b1 b2 pa (fun w hl => lput_no (by omega) (by omega) r2 w hl) w hl hmm
    | true =>
      have pb : Puts m n (putA (laOf m n)) 0 := fun w hl => lput_yes q2 r2 w hl
      have g1 := good_of r1
      have g2 := good_of r2
      have o1 := good_ok g1 q1
      have o2 := good_ok g2 q2
      have hS := same_iff g1 g2
      have hse : putA (laOf l r) = putA (laOf m n) ↔ laOf l r = laOf m n := ⟨fun e => by
        have e1 := getA_put o1
        rw [e, getA_put o2] at e1
        simpa using e1.symm, fun e => by rw [e]⟩
      obtain ⟨s, hs⟩ : ∃ s, putA (laOf l r) = s := ⟨_, rfl⟩
      obtain ⟨t, ht⟩ : ∃ t, putA (laOf m n) = t := ⟨_, rfl⟩
      have hpre : ∀ X, t = s ++ X → s = t := fun X e => by
        rcases Nat.eq_zero_or_pos X.size with h0 | h0
        · rw [e, bempty h0, ByteArray.append_empty]
        · have e1 := getA_more o1 h0
          rw [hs, ← e, ← ht, getA_put o2] at e1
          cases e1
      rw [hs] at pa hse
      rw [ht] at pb hse
      have hsame : ∀ w, LetAt w l r → LetAt w m n → Calls Try.prog 43 #[letV l, letV m] w fun e w' => e = .returned (.bool (s.toList == t.toList)) ∧ Ext w w' := fun w hl hmm => by
        have := same_c l m r n (by omega) (by omega) w hl hmm
        have e : sameLet l r m n = (s.toList == t.toList) := by
          rw [str_eq, Bool.eq_iff_iff, hS, decide_eq_true_iff]
          exact hse.symm
        rw [e] at this
        exact this
      by_cases hab : s.size ≤ t.size
      · obtain ⟨u, hu⟩ : ∃ u, t.extract 0 s.size = u := ⟨_, rfl⟩
        refine walk_le l m r n s t u s.size t.size (s.toList == t.toList) rfl rfl hab hu rfl ?_ b1 b2 pa pb hsame w hl hmm
        rw [str_eq, str_eq, decide_eq_decide]
        refine ⟨fun e => ?_, fun e => ?_⟩
        · refine hpre (t.extract s.size t.size) ?_
          conv => rhs; lhs; rw [← e, ← hu]
          rw [ByteArray.extract_append_extract, Nat.min_eq_left (Nat.zero_le _), Nat.max_eq_right hab, ByteArray.extract_zero_size]
        · rw [← hu, e, ByteArray.extract_zero_size]
      · have hq : (s.toList == t.toList) = false := by
          rw [str_eq, decide_eq_false_iff_not]
          intro e
          rw [e] at hab
          exact hab (Nat.le_refl _)
        rw [hq] at hsame
        exact walk_gt l m r n s t s.size t.size rfl rfl (decide_eq_false hab) hq b1 b2 pa pb hsame w hl hmm

set_option maxRecDepth 100000 in
theorem lifted (os : Os) (started : os.Started) (H : Type) (enc : TypeId × Value → H) :
    ReturnsInHanded {} Try.checked os 12 .any (Rows.letterApartSpec.pre6 enc Try.prog Try.f12 Rows.letterApartRow.domain false) (Rows.letterApartSpec.post enc Try.prog Try.f12 false true false false) := by
  refine returnsInHanded_of_change (C := Try.checked) own started (by kernel_rfl) Try.func12
    (ChangeSpec.witness6 (enc := enc) (C := Try.checked) false ⟨#[], #[.agg #[.int .i64 0, .int .i64 0, .int .u8 0, .int .u8 0, .int .u8 0, .int .u8 0, .int .u8 0, .int .u8 0, .int .u8 0, .int .u8 0, .int .u8 0, .int .u8 0, .int .u8 0, .int .u8 0, .int .u8 0, .int .u8 0, .int .u8 0, .int .u8 0, .int .u8 0, .int .u8 0, .int .u8 0, .int .u8 0, .int .u64 0, .int .u8 0, .int .u8 0, .int .u8 0, .int .u8 0, .int .u8 0, .int .u8 0, .int .u8 0, .int .u8 0, .int .u8 0, .int .u8 0, .int .u8 0, .int .u8 0, .int .u8 0, .int .u8 0, .int .u8 0, .int .u8 0, .int .u8 0, .int .u8 0, .int .u8 0, .int .u8 0, .slice none 0 0, .bool false, .int .i64 0, .int .u8 0, .int .u8 0, .int .u8 0, .int .u8 0, .int .u8 0, .int .u8 0, .int .u8 0, .int .u8 0, .int .u8 0, .int .u8 0, .int .u8 0, .int .u8 0, .int .u8 0, .int .u8 0, .int .u8 0, .int .u8 0, .int .u8 0, .int .u8 0, .int .u8 0, .int .u8 0, .slice none 0 0], .agg #[.int .i64 0, .int .i64 0, .int .u8 0, .int .u8 0, .int .u8 0, .int .u8 0, .int .u8 0, .int .u8 0, .int .u8 0, .int .u8 0, .int .u8 0, .int .u8 0, .int .u8 0, .int .u8 0, .int .u8 0, .int .u8 0, .int .u8 0, .int .u8 0, .int .u8 0, .int .u8 0, .int .u8 0, .int .u8 0, .int .u64 0, .int .u8 0, .int .u8 0, .int .u8 0, .int .u8 0, .int .u8 0, .int .u8 0, .int .u8 0, .int .u8 0, .int .u8 0, .int .u8 0, .int .u8 0, .int .u8 0, .int .u8 0, .int .u8 0, .int .u8 0, .int .u8 0, .int .u8 0, .int .u8 0, .int .u8 0, .int .u8 0, .slice none 0 0, .bool false, .int .i64 0, .int .u8 0, .int .u8 0, .int .u8 0, .int .u8 0, .int .u8 0, .int .u8 0, .int .u8 0, .int .u8 0, .int .u8 0, .int .u8 0, .int .u8 0, .int .u8 0, .int .u8 0, .int .u8 0, .int .u8 0, .int .u8 0, .int .u8 0, .int .u8 0, .int .u8 0, .int .u8 0, .slice none 0 0]], []⟩ 8 (by kernel_rfl) (by kernel_rfl) (by kernel_rfl) (by kernel_rfl)) ?_
  intro W base args ds gs before hval0 hW hcnd _
  have hval : ∀ (j : Nat) t v, Try.f12.params[j]? = some t → args[j]? = some v → Value.okWide Try.prog W .any base t v := hval0
  have hW' := hW
  obtain ⟨p, q, hA0, hV, rfl, hfz, hnd⟩ := hW
  have hA : DataW.TrodAll enc Try.prog W 0 (fun _ => true) true Try.f12.params.toList args.toList ds p := hA0
  rw [Try.params12] at hA hval
  obtain ⟨v0, vs0, d0, ds0, p0, q0, hargs, rfl, rfl, h0, r0⟩ := trodAll_cons hA
  obtain ⟨v1, vs1, d1, ds1, p1, q1, rfl, rfl, rfl, h1, r1⟩ := trodAll_cons r0
  obtain ⟨rfl, rfl, rfl⟩ := trodAll_nil r1
  obtain rfl : args = #[v0, v1] := by cases args; simp_all
  obtain ⟨rfl, rfl⟩ := trodVars_none hV
  have k0 := h0
  have lt0 : ∀ x ∈ p0, x.block < W.heap.size := by obtain ⟨m, hm⟩ := k0; exact DataW.trod_lt m _ _ _ hm
  have k1 := h1
  have lt1 : ∀ x ∈ p1, x.block < W.heap.size := by obtain ⟨m, hm⟩ := k1; exact DataW.trod_lt m _ _ _ hm
  obtain ⟨le0, ro0, rfl, qq0, ww0⟩ := open_letter (hval 0 63 v0 rfl rfl) h0
  obtain ⟨le1, ro1, rfl, qq1, ww1⟩ := open_letter (hval 1 63 v1 rfl rfl) h1
  clear hA0 hval0
  refine (walk le0 ro0 qq0 le1 ro1 qq1 W ww0 ww1).mono fun e W' ⟨he, ext⟩ => ?_
  subst he
  have bel := ext.below
  exact ⟨_, rfl, _, _, _, [], _, [], hW', trodAll_mk1 (shut_bool Try.underlying4 _), (trodAll_cons_mk (Below.trod laidOut (by kernel_rfl) (of_decide_eq_true (by kernel_rfl)) k0 bel lt0) (trodAll_cons_mk (Below.trod laidOut (by kernel_rfl) (of_decide_eq_true (by kernel_rfl)) k1 bel lt1) trodAll_mk0)), rfl, bel.frame _, fun h => by cases h⟩

theorem over : Rows.letterApartRow.holds Try.pinned (OpenSpec.ofChange Rows.letterApartSpec) :=
  OpenClaim.holds_of_wide 12 Try.f12 rfl rfl rfl rfl rfl rfl rfl ⟨rfl, rfl, rfl, rfl, rfl⟩ rfl rfl rfl rfl rfl (by kernel_rfl) Try.func12 (by kernel_rfl)
    (of_decide_eq_true (by kernel_rfl)) (by unfold Func.isWrapper; first | (rw [if_pos (by decide +kernel)]; kernel_rfl) | (rw [if_neg (by decide +kernel)]; exact ⟨rfl, rfl⟩))
    (fun os started H enc _ => lifted os started H enc)

theorem proved : Rows.LetterApartSaid := over
#print axioms proved
end Go.Proofs.Ytijkmbebfodhdaa.lawEApart
