/- Texts joined by program: LetX LetY LetYP LetZ LetD. -/
import Derived.Deep.CutRange
import Derived.Test.YtijkmbebfodhdaaEGets3
/- (LetX) -/
namespace Go.Proofs.Ytijkmbebfodhdaa
open Go.RowKit
set_option linter.unusedSimpArgs false
set_option linter.unusedVariables false
set_option maxHeartbeats 2000000
set_option maxRecDepth 20000
attribute [local irreducible] wpQuiet wpList wpAnyH Calls
theorem get_c (s : ByteArray) (w : World) : Calls Try.prog 41 #[.string s] w (GetR (getA s) w) := by
  obtain ⟨R, hR⟩ : ∃ R, getA s = R := ⟨_, rfl⟩
  rw [hR]
  have HR := hid hR
  clear hR
  go_enter_defers Try.func41, Try.ntmps41
  refine wp_mono (Q := GetQ R w) ?_ fun e a' w' h => get_door h
  have hm := Mem.refl w []
  have hmf : ∀ fn first cap w, (Instr.makeFunc fn first cap).run Try.prog w = .ok (.func fn first cap) w := fun _ _ _ _ => rfl
  go_wp2_with (with_reducible first | refine stAl ?_ | refine stBo ?_ | refine stLo ?_ | refine stSo ?_ | refine stBu ?_ | refine stBs ?_ | refine stMs ?_ | refine stAp ?_ | refine stCo ?_); refine Stop.go (wl_alloc (by rfl) zeroLetter rfl hm ?_); clear hm; intro lb w1 hm; simp only [Act.put, k1, k2, k3]; (try simp only [rowOf_set, set_kind, set_req, set_done, k1, k2, k3, Value.cells, Act.eval, k7, k8, k9, kA, Option.getD_some] at hm)
  go_wp2_with (with_reducible first | refine stAl ?_ | refine stBo ?_ | refine stLo ?_ | refine stSo ?_ | refine stBu ?_ | refine stBs ?_ | refine stMs ?_ | refine stAp ?_ | refine stCo ?_); refine Stop.go (wl_alloc (by rfl) zeroErr rfl hm ?_); clear hm; intro eb w2 hm; simp only [Act.put, k1, k2, k3]; (try simp only [rowOf_set, set_kind, set_req, set_done, k1, k2, k3, Value.cells, Act.eval, k7, k8, k9, kA, Option.getD_some] at hm)
  go_wp2_with (with_reducible first | refine stAl ?_ | refine stBo ?_ | refine stLo ?_ | refine stSo ?_ | refine stBu ?_ | refine stBs ?_ | refine stMs ?_ | refine stAp ?_ | refine stCo ?_)
  clear hmf
  refine (new_c s _).mono ?_
  rintro e w3 ⟨rb, rfl, hx⟩
  replace hm := Mem.callOwn (B := []) hm hx; clear hx; simp only [List.cons_append, List.nil_append] at hm
  go_wp2_with (with_reducible first | refine stAl ?_ | refine stBo ?_ | refine stLo ?_ | refine stSo ?_ | refine stBu ?_ | refine stBs ?_ | refine stMs ?_ | refine stAp ?_ | refine stCo ?_); refine Stop.go (wl_build (by rfl) (built_rdr rb) (by simp [Act.eval]) ?_); simp only [Act.put, k1, k2, k3]
  go_wp2_with (with_reducible first | refine stAl ?_ | refine stBo ?_ | refine stLo ?_ | refine stSo ?_ | refine stBu ?_ | refine stBs ?_ | refine stMs ?_ | refine stAp ?_ | refine stCo ?_); refine Stop.go (wl_alloc (by rfl) zeroRd rfl hm ?_); clear hm; intro rc w4 hm; simp only [Act.put, k1, k2, k3]; (try simp only [rowOf_set, set_kind, set_req, set_done, k1, k2, k3, Value.cells, Act.eval, k7, k8, k9, kA, Option.getD_some] at hm)
  go_wp2_with (with_reducible first | refine stAl ?_ | refine stBo ?_ | refine stLo ?_ | refine stSo ?_ | refine stBu ?_ | refine stBs ?_ | refine stMs ?_ | refine stAp ?_ | refine stCo ?_); refine Stop.go (wl_store (i := 0) (by rfl) hm rfl rfl rfl (by first | rfl | exact idV_eq _ | exact peerV_eq _ _ | exact letV_eq _) (by first | exact sizeRd | (simp only [rowOf_size, idC_size, peerC_size, letC_size]; exact sizeRd)) (by first | (simp only [rowOf_size, idC_size, peerC_size, letC_size]; done) | rfl) (by first | exact peerC_one _ _ | rfl | (simp only [List.size_toArray, List.length_cons, List.all_toArray', List.all_cons, List.all_nil, Value.oneCell', Bool.and_true, Bool.and_self]; done) | (simp [Value.oneCell']; done) | exact rowOf_one _ _ (fun _ _ => rfl) | exact idC_one _ | (exact rowOf_one _ _ (by intro i _; repeat (first | rfl | split)))) ?_); clear hm; intro w5 hm; simp only [Act.put, k1, k2, k3]; simp only [rowOf_set, set_kind, set_req, set_done, k1, k2, k3, Value.cells, Act.eval, k7, k8, k9, kA, Option.getD_some] at hm
  go_upto_region 3 with ((first | refine wpList_skip (by rfl) ?_ | (refine wlL (hm := hm) (hu := by first | exact undPeer | exact undID | exact undLetter | exact undRd) (hi := by (try simp only [rowOf_size, idC_size, peerC_size, letC_size]); first | exact sizePeer | exact sizeID | exact sizeLetter | exact sizeRd) (h := ?_); (try simp only [Act.put, k1, k2, k3]); (try simp only [← peerV_eq, ← idV_eq, ← letV_eq])) | refine wlLC (hm := hm) (hv := by first | exact let0 _ | exact let1 _ | exact let22 _ | exact let43 _ | exact let44 _ | exact let45 _ | exact let66 _ | rfl) (hu := by first | exact undInt | exact undU64 | exact undBool | exact undIntS | exact undPeerS | exact undStr | exact undRdP | exact undErr) (h := ?_) | (refine yS (hm := hm) (hi := by (try simp only [rowOf_size, idC_size, peerC_size, letC_size]); first | exact sizePeer | exact sizeID | exact sizeLetter | exact sizeRd) (h := ?_); clear hm; intro w1 hm; (try simp only [rowOf_set, set_kind, set_req, set_done, k1, k2, k3, Value.cells, Act.eval, k7, k8, k9, kA, Option.getD_some] at hm)) | (refine wlSM (by rfl) hm (by rfl) (by with_reducible first | exact at0 | exact at1 | exact at2 | exact at3) (by rfl) (by first | rfl | exact idV_eq _ | exact peerV_eq _ _ | exact letV_eq _) (by first | exact peerC_one _ _ | exact idC_one _) (by first | (rw [peerC_size]; exact sizePeer) | (rw [idC_size]; exact sizeID)) (by simp only [rowOf_size, idC_size, peerC_size, letC_size]; decide) (by first | exact mid_from _ _ _ | exact mid_peer _ _ _ | exact mid_id _ _) ?_; clear hm; intro w1 hm; simp only [k2, k3] at hm) | (refine wlSC (hm := hm) (hi := by first | exact sizeInt | exact sizeU64 | exact sizeBool | exact sizeIntS | exact sizePeerS | exact sizeStr | exact sizeRdP | exact sizeErr) (ho := by first | decide | (simp only [rowOf_size, idC_size, peerC_size, letC_size]; omega) | (simp; done)) (h := ?_); clear hm; intro w1 hm; (try simp only [rowOf_set, set_kind, set_req, set_done, k1, k2, k3, Value.cells, Act.eval, k7, k8, k9, kA, Option.getD_some] at hm)) | (refine wlA (hz := by first | exact zeroPeer | exact zeroID | exact zeroLetter | exact zeroRd | exact zeroErr) (hm := hm) (h := ?_); clear hm; intro b1 w1 hm; (try simp only [rowOf_set, set_kind, set_req, set_done, k1, k2, k3, Value.cells, Act.eval, k7, k8, k9, kA, Option.getD_some] at hm)) | (refine wl_box (by rfl) rfl (by first | exact peerV_cells _ _ | exact letV_cells _ | exact idV_cells _ | rfl) hm ?_; clear hm; intro b1 w1 hm) | (refine wl_build (by rfl) (built_rdr _) rfl ?_; (try simp only [Act.put, k1, k2, k3]); (try simp only [← peerV_eq, ← idV_eq, ← letV_eq])) | (go_at_call 23; refine (new_c _ _).mono ?_; rintro e w1 ⟨b1, rfl, hx⟩; replace hm := Mem.callOwn (B := []) hm hx; clear hx; simp only [List.cons_append, List.nil_append] at hm) | (with_reducible first | refine stBs ?_ | refine stMs ?_ | refine stAp ?_ | refine stCo ?_)); (try simp only [k4, k5, k6, Act.put, k1, k2, k3]))
  rcases hk : gN 1 8 s with x | ⟨k, s1⟩
  · obtain ⟨r, hp⟩ := gN_x hk rb (lo' := 1) (hi' := 8) rfl rfl
    have HK := hid hk
    clear hk
    go_wp2_with ((first | refine wpList_skip (by rfl) ?_ | (refine wlL (hm := hm) (hu := by first | exact undPeer | exact undID | exact undLetter | exact undRd) (hi := by (try simp only [rowOf_size, idC_size, peerC_size, letC_size]); first | exact sizePeer | exact sizeID | exact sizeLetter | exact sizeRd) (h := ?_); (try simp only [Act.put, k1, k2, k3]); (try simp only [← peerV_eq, ← idV_eq, ← letV_eq])) | refine wlLC (hm := hm) (hv := by first | exact let0 _ | exact let1 _ | exact let22 _ | exact let43 _ | exact let44 _ | exact let45 _ | exact let66 _ | rfl) (hu := by first | exact undInt | exact undU64 | exact undBool | exact undIntS | exact undPeerS | exact undStr | exact undRdP | exact undErr) (h := ?_) | (refine yS (hm := hm) (hi := by (try simp only [rowOf_size, idC_size, peerC_size, letC_size]); first | exact sizePeer | exact sizeID | exact sizeLetter | exact sizeRd) (h := ?_); clear hm; intro w1 hm; (try simp only [rowOf_set, set_kind, set_req, set_done, k1, k2, k3, Value.cells, Act.eval, k7, k8, k9, kA, Option.getD_some] at hm)) | (refine wlSM (by rfl) hm (by rfl) (by with_reducible first | exact at0 | exact at1 | exact at2 | exact at3) (by rfl) (by first | rfl | exact idV_eq _ | exact peerV_eq _ _ | exact letV_eq _) (by first | exact peerC_one _ _ | exact idC_one _) (by first | (rw [peerC_size]; exact sizePeer) | (rw [idC_size]; exact sizeID)) (by simp only [rowOf_size, idC_size, peerC_size, letC_size]; decide) (by first | exact mid_from _ _ _ | exact mid_peer _ _ _ | exact mid_id _ _) ?_; clear hm; intro w1 hm; simp only [k2, k3] at hm) | (refine wlSC (hm := hm) (hi := by first | exact sizeInt | exact sizeU64 | exact sizeBool | exact sizeIntS | exact sizePeerS | exact sizeStr | exact sizeRdP | exact sizeErr) (ho := by first | decide | (simp only [rowOf_size, idC_size, peerC_size, letC_size]; omega) | (simp; done)) (h := ?_); clear hm; intro w1 hm; (try simp only [rowOf_set, set_kind, set_req, set_done, k1, k2, k3, Value.cells, Act.eval, k7, k8, k9, kA, Option.getD_some] at hm)) | (refine wlA (hz := by first | exact zeroPeer | exact zeroID | exact zeroLetter | exact zeroRd | exact zeroErr) (hm := hm) (h := ?_); clear hm; intro b1 w1 hm; (try simp only [rowOf_set, set_kind, set_req, set_done, k1, k2, k3, Value.cells, Act.eval, k7, k8, k9, kA, Option.getD_some] at hm)) | (refine wl_box (by rfl) rfl (by first | exact peerV_cells _ _ | exact letV_cells _ | exact idV_cells _ | rfl) hm ?_; clear hm; intro b1 w1 hm) | (refine wl_build (by rfl) (built_rdr _) rfl ?_; (try simp only [Act.put, k1, k2, k3]); (try simp only [← peerV_eq, ← idV_eq, ← letV_eq])) | (go_at_call 73; refine (hp _ (hm.heap (by with_reducible first | exact at0 | exact at1 | exact at2 | exact at3))).mono ?_; rintro e w1 ⟨rfl, hx⟩; replace hm := hm.callAt (by with_reducible first | exact at0 | exact at1 | exact at2 | exact at3) hx; clear hx; simp only [k2, k3] at hm) | (with_reducible first | refine stBs ?_ | refine stMs ?_ | refine stAp ?_ | refine stCo ?_)); (try simp only [k4, k5, k6, Act.put, k1, k2, k3]))
    refine get_pan ?_ hm (letC_size _) rfl rfl rfl rfl rfl
    rw [← HR.out]
    unfold getA
    rw [HK.out]
    rfl
  · have hp := gN_c hk rb (lo' := 1) (hi' := 8) rfl rfl
    have hwk := wrap_small (show k ≤ 999 from Nat.le_trans (gN_ok hk).2.2.2.2 (by decide))
    have HK := hid hk
    clear hk
    go_upto_region 4 with ((first | refine wpList_skip (by rfl) ?_ | (refine wlL (hm := hm) (hu := by first | exact undPeer | exact undID | exact undLetter | exact undRd) (hi := by (try simp only [rowOf_size, idC_size, peerC_size, letC_size]); first | exact sizePeer | exact sizeID | exact sizeLetter | exact sizeRd) (h := ?_); (try simp only [Act.put, k1, k2, k3]); (try simp only [← peerV_eq, ← idV_eq, ← letV_eq])) | refine wlLC (hm := hm) (hv := by first | exact let0 _ | exact let1 _ | exact let22 _ | exact let43 _ | exact let44 _ | exact let45 _ | exact let66 _ | rfl) (hu := by first | exact undInt | exact undU64 | exact undBool | exact undIntS | exact undPeerS | exact undStr | exact undRdP | exact undErr) (h := ?_) | (refine yS (hm := hm) (hi := by (try simp only [rowOf_size, idC_size, peerC_size, letC_size]); first | exact sizePeer | exact sizeID | exact sizeLetter | exact sizeRd) (h := ?_); clear hm; intro w1 hm; (try simp only [rowOf_set, set_kind, set_req, set_done, k1, k2, k3, Value.cells, Act.eval, k7, k8, k9, kA, Option.getD_some] at hm)) | (refine wlSM (by rfl) hm (by rfl) (by with_reducible first | exact at0 | exact at1 | exact at2 | exact at3) (by rfl) (by first | rfl | exact idV_eq _ | exact peerV_eq _ _ | exact letV_eq _) (by first | exact peerC_one _ _ | exact idC_one _) (by first | (rw [peerC_size]; exact sizePeer) | (rw [idC_size]; exact sizeID)) (by simp only [rowOf_size, idC_size, peerC_size, letC_size]; decide) (by first | exact mid_from _ _ _ | exact mid_peer _ _ _ | exact mid_id _ _) ?_; clear hm; intro w1 hm; simp only [k2, k3] at hm) | (refine wlSC (hm := hm) (hi := by first | exact sizeInt | exact sizeU64 | exact sizeBool | exact sizeIntS | exact sizePeerS | exact sizeStr | exact sizeRdP | exact sizeErr) (ho := by first | decide | (simp only [rowOf_size, idC_size, peerC_size, letC_size]; omega) | (simp; done)) (h := ?_); clear hm; intro w1 hm; (try simp only [rowOf_set, set_kind, set_req, set_done, k1, k2, k3, Value.cells, Act.eval, k7, k8, k9, kA, Option.getD_some] at hm)) | (refine wlA (hz := by first | exact zeroPeer | exact zeroID | exact zeroLetter | exact zeroRd | exact zeroErr) (hm := hm) (h := ?_); clear hm; intro b1 w1 hm; (try simp only [rowOf_set, set_kind, set_req, set_done, k1, k2, k3, Value.cells, Act.eval, k7, k8, k9, kA, Option.getD_some] at hm)) | (refine wl_box (by rfl) rfl (by first | exact peerV_cells _ _ | exact letV_cells _ | exact idV_cells _ | rfl) hm ?_; clear hm; intro b1 w1 hm) | (refine wl_build (by rfl) (built_rdr _) rfl ?_; (try simp only [Act.put, k1, k2, k3]); (try simp only [← peerV_eq, ← idV_eq, ← letV_eq])) | (go_at_call 73; refine (hp _ (hm.heap (by with_reducible first | exact at0 | exact at1 | exact at2 | exact at3))).mono ?_; rintro e w1 ⟨rfl, hx⟩; replace hm := hm.callAt (by with_reducible first | exact at0 | exact at1 | exact at2 | exact at3) hx; clear hx; simp only [k2, k3] at hm) | (with_reducible first | refine stBs ?_ | refine stMs ?_ | refine stAp ?_ | refine stCo ?_)); (try simp only [k4, k5, k6, Act.put, k1, k2, k3]))
    rcases hf : gP s1 with x | ⟨⟨a, p⟩, s2⟩
    · obtain ⟨r, hp2⟩ := gP_x hf rb
      clear hp
      have hp := hp2
      clear hp2
      have HF := hid hf
      clear hf
      go_wp2_with ((first | refine wpList_skip (by rfl) ?_ | (refine wlL (hm := hm) (hu := by first | exact undPeer | exact undID | exact undLetter | exact undRd) (hi := by (try simp only [rowOf_size, idC_size, peerC_size, letC_size]); first | exact sizePeer | exact sizeID | exact sizeLetter | exact sizeRd) (h := ?_); (try simp only [Act.put, k1, k2, k3]); (try simp only [← peerV_eq, ← idV_eq, ← letV_eq])) | refine wlLC (hm := hm) (hv := by first | exact let0 _ | exact let1 _ | exact let22 _ | exact let43 _ | exact let44 _ | exact let45 _ | exact let66 _ | rfl) (hu := by first | exact undInt | exact undU64 | exact undBool | exact undIntS | exact undPeerS | exact undStr | exact undRdP | exact undErr) (h := ?_) | (refine yS (hm := hm) (hi := by (try simp only [rowOf_size, idC_size, peerC_size, letC_size]); first | exact sizePeer | exact sizeID | exact sizeLetter | exact sizeRd) (h := ?_); clear hm; intro w1 hm; (try simp only [rowOf_set, set_kind, set_req, set_done, k1, k2, k3, Value.cells, Act.eval, k7, k8, k9, kA, Option.getD_some] at hm)) | (refine wlSM (by rfl) hm (by rfl) (by with_reducible first | exact at0 | exact at1 | exact at2 | exact at3) (by rfl) (by first | rfl | exact idV_eq _ | exact peerV_eq _ _ | exact letV_eq _) (by first | exact peerC_one _ _ | exact idC_one _) (by first | (rw [peerC_size]; exact sizePeer) | (rw [idC_size]; exact sizeID)) (by simp only [rowOf_size, idC_size, peerC_size, letC_size]; decide) (by first | exact mid_from _ _ _ | exact mid_peer _ _ _ | exact mid_id _ _) ?_; clear hm; intro w1 hm; simp only [k2, k3] at hm) | (refine wlSC (hm := hm) (hi := by first | exact sizeInt | exact sizeU64 | exact sizeBool | exact sizeIntS | exact sizePeerS | exact sizeStr | exact sizeRdP | exact sizeErr) (ho := by first | decide | (simp only [rowOf_size, idC_size, peerC_size, letC_size]; omega) | (simp; done)) (h := ?_); clear hm; intro w1 hm; (try simp only [rowOf_set, set_kind, set_req, set_done, k1, k2, k3, Value.cells, Act.eval, k7, k8, k9, kA, Option.getD_some] at hm)) | (refine wlA (hz := by first | exact zeroPeer | exact zeroID | exact zeroLetter | exact zeroRd | exact zeroErr) (hm := hm) (h := ?_); clear hm; intro b1 w1 hm; (try simp only [rowOf_set, set_kind, set_req, set_done, k1, k2, k3, Value.cells, Act.eval, k7, k8, k9, kA, Option.getD_some] at hm)) | (refine wl_box (by rfl) rfl (by first | exact peerV_cells _ _ | exact letV_cells _ | exact idV_cells _ | rfl) hm ?_; clear hm; intro b1 w1 hm) | (refine wl_build (by rfl) (built_rdr _) rfl ?_; (try simp only [Act.put, k1, k2, k3]); (try simp only [← peerV_eq, ← idV_eq, ← letV_eq])) | (go_at_call 74; refine (hp _ (hm.heap (by with_reducible first | exact at0 | exact at1 | exact at2 | exact at3))).mono ?_; rintro e w1 ⟨rfl, hx⟩; replace hm := hm.callAt (by with_reducible first | exact at0 | exact at1 | exact at2 | exact at3) hx; clear hx; simp only [k2, k3] at hm) | (go_at_call 62; refine (none_c _).mono ?_; rintro e w1 ⟨rfl, hx⟩; replace hm := hm.call hx; clear hx) | (go_at_call 58; refine (hpt _).mono ?_; rintro e w1 ⟨rfl, hx⟩; replace hm := hm.call hx; clear hx) | (with_reducible first | refine stBs ?_ | refine stMs ?_ | refine stAp ?_ | refine stCo ?_)); (try simp only [k4, k5, k6, Act.put, k1, k2, k3]))
      refine get_pan ?_ hm (letC_size _) rfl rfl rfl rfl rfl
      rw [← HR.out]
      unfold getA
      simp only [HK.out, ok_bind, HF.out]
      rfl
    · have hp2 := gP_c hf rb
      clear hp
      have hp := hp2
      clear hp2
      have HF := hid hf
      clear hf
      obtain ⟨H, hH⟩ : ∃ H, ((partsM (k : Int) : Nat) : Int) = H := ⟨_, rfl⟩
      obtain ⟨kd, hkd⟩ : ∃ kd, kindM (k : Int) = kd := ⟨_, rfl⟩
      have hpt := parts_c (k : Int)
      rw [hH, hkd] at hpt
      obtain ⟨f0, g0⟩ : ∃ f, (bits .and .i64 H 1 != 0) = f := ⟨_, rfl⟩
      have F0 := hid (show hasB k 0 = f0 by rw [← g0, ← hH]; rfl)
      obtain ⟨f1, g1⟩ : ∃ f, (bits .and .i64 H 2 != 0) = f := ⟨_, rfl⟩
      have F1 := hid (show hasB k 1 = f1 by rw [← g1, ← hH]; rfl)
      obtain ⟨f2, g2⟩ : ∃ f, (bits .and .i64 H 4 != 0) = f := ⟨_, rfl⟩
      have F2 := hid (show hasB k 2 = f2 by rw [← g2, ← hH]; rfl)
      obtain ⟨f3, g3⟩ : ∃ f, (bits .and .i64 H 8 != 0) = f := ⟨_, rfl⟩
      have F3 := hid (show hasB k 3 = f3 by rw [← g3, ← hH]; rfl)
      obtain ⟨f4, g4⟩ : ∃ f, (bits .and .i64 H 16 != 0) = f := ⟨_, rfl⟩
      have F4 := hid (show hasB k 4 = f4 by rw [← g4, ← hH]; rfl)
      obtain ⟨f5, g5⟩ : ∃ f, (bits .and .i64 H 32 != 0) = f := ⟨_, rfl⟩
      have F5 := hid (show hasB k 5 = f5 by rw [← g5, ← hH]; rfl)
      obtain ⟨fk, gk⟩ : ∃ f, ((k : Int) == 2) = f := ⟨_, rfl⟩
      obtain ⟨lst, hlst⟩ : ∃ l, leastB k = l := ⟨_, rfl⟩
      have HL := hid hlst
      have HGK := hid gk
      clear hH hkd hlst
      go_upto_if 29 with ((first | refine wpList_skip (by rfl) ?_ | (refine wlL (hm := hm) (hu := by first | exact undPeer | exact undID | exact undLetter | exact undRd) (hi := by (try simp only [rowOf_size, idC_size, peerC_size, letC_size]); first | exact sizePeer | exact sizeID | exact sizeLetter | exact sizeRd) (h := ?_); (try simp only [Act.put, k1, k2, k3]); (try simp only [← peerV_eq, ← idV_eq, ← letV_eq])) | refine wlLC (hm := hm) (hv := by first | exact let0 _ | exact let1 _ | exact let22 _ | exact let43 _ | exact let44 _ | exact let45 _ | exact let66 _ | rfl) (hu := by first | exact undInt | exact undU64 | exact undBool | exact undIntS | exact undPeerS | exact undStr | exact undRdP | exact undErr) (h := ?_) | (refine yS (hm := hm) (hi := by (try simp only [rowOf_size, idC_size, peerC_size, letC_size]); first | exact sizePeer | exact sizeID | exact sizeLetter | exact sizeRd) (h := ?_); clear hm; intro w1 hm; (try simp only [rowOf_set, set_kind, set_req, set_done, k1, k2, k3, Value.cells, Act.eval, k7, k8, k9, kA, Option.getD_some] at hm)) | (refine wlSM (by rfl) hm (by rfl) (by with_reducible first | exact at0 | exact at1 | exact at2 | exact at3) (by rfl) (by first | rfl | exact idV_eq _ | exact peerV_eq _ _ | exact letV_eq _) (by first | exact peerC_one _ _ | exact idC_one _) (by first | (rw [peerC_size]; exact sizePeer) | (rw [idC_size]; exact sizeID)) (by simp only [rowOf_size, idC_size, peerC_size, letC_size]; decide) (by first | exact mid_from _ _ _ | exact mid_peer _ _ _ | exact mid_id _ _) ?_; clear hm; intro w1 hm; simp only [k2, k3] at hm) | (refine wlSC (hm := hm) (hi := by first | exact sizeInt | exact sizeU64 | exact sizeBool | exact sizeIntS | exact sizePeerS | exact sizeStr | exact sizeRdP | exact sizeErr) (ho := by first | decide | (simp only [rowOf_size, idC_size, peerC_size, letC_size]; omega) | (simp; done)) (h := ?_); clear hm; intro w1 hm; (try simp only [rowOf_set, set_kind, set_req, set_done, k1, k2, k3, Value.cells, Act.eval, k7, k8, k9, kA, Option.getD_some] at hm)) | (refine wlA (hz := by first | exact zeroPeer | exact zeroID | exact zeroLetter | exact zeroRd | exact zeroErr) (hm := hm) (h := ?_); clear hm; intro b1 w1 hm; (try simp only [rowOf_set, set_kind, set_req, set_done, k1, k2, k3, Value.cells, Act.eval, k7, k8, k9, kA, Option.getD_some] at hm)) | (refine wl_box (by rfl) rfl (by first | exact peerV_cells _ _ | exact letV_cells _ | exact idV_cells _ | rfl) hm ?_; clear hm; intro b1 w1 hm) | (refine wl_build (by rfl) (built_rdr _) rfl ?_; (try simp only [Act.put, k1, k2, k3]); (try simp only [← peerV_eq, ← idV_eq, ← letV_eq])) | (go_at_call 74; refine (hp _ (hm.heap (by with_reducible first | exact at0 | exact at1 | exact at2 | exact at3))).mono ?_; rintro e w1 ⟨rfl, hx⟩; replace hm := hm.callAt (by with_reducible first | exact at0 | exact at1 | exact at2 | exact at3) hx; clear hx; simp only [k2, k3] at hm) | (go_at_call 62; refine (none_c _).mono ?_; rintro e w1 ⟨rfl, hx⟩; replace hm := hm.call hx; clear hx) | (go_at_call 58; refine (hpt _).mono ?_; rintro e w1 ⟨rfl, hx⟩; replace hm := hm.call hx; clear hx) | (with_reducible first | refine stBs ?_ | refine stMs ?_ | refine stAp ?_ | refine stCo ?_)); (try simp only [k4, k5, k6, Act.put, k1, k2, k3]))
      replace hm : Mem w [] ((rc, .cells #[.pointer (some ⟨rb, 0, none⟩)] 103 (0, 0)) :: (rb, .cells #[.string s2] 76 (0, 0)) :: (eb, .cells #[.int .i64 0] 27 (0, 0)) :: (lb, .cells (letC ⟨(k : Int), (a : Int), p, 0, 0, none, 0, 0, false, -1, 0, none, 0, 0⟩) 63 (0, 0)) :: []) _ := hm
      clear hpt hp hwk
      go_cut [] from 8 to 97 (fun wx => ∃ (rq : Nat) (s3 : ByteArray), opN f0 0 18446744073709551615 s2 = .ok (rq, s3) ∧ Mem w [] ((rc, .cells #[.pointer (some ⟨rb, 0, none⟩)] 103 (0, 0)) :: (rb, .cells #[.string s3] 76 (0, 0)) :: (eb, .cells #[.int .i64 0] 27 (0, 0)) :: (lb, .cells (letC ⟨(k : Int), (a : Int), p, rq, 0, none, 0, 0, false, -1, 0, none, 0, 0⟩) 63 (0, 0)) :: []) wx)
      case first =>
        rcases f0 with _ | _
        · go_wp2_with ((first | refine wpList_skip (by rfl) ?_ | (refine wlL (hm := hm) (hu := by first | exact undPeer | exact undID | exact undLetter | exact undRd) (hi := by (try simp only [rowOf_size, idC_size, peerC_size, letC_size]); first | exact sizePeer | exact sizeID | exact sizeLetter | exact sizeRd) (h := ?_); (try simp only [Act.put, k1, k2, k3]); (try simp only [← peerV_eq, ← idV_eq, ← letV_eq])) | refine wlLC (hm := hm) (hv := by first | exact let0 _ | exact let1 _ | exact let22 _ | exact let43 _ | exact let44 _ | exact let45 _ | exact let66 _ | rfl) (hu := by first | exact undInt | exact undU64 | exact undBool | exact undIntS | exact undPeerS | exact undStr | exact undRdP | exact undErr) (h := ?_) | (refine yS (hm := hm) (hi := by (try simp only [rowOf_size, idC_size, peerC_size, letC_size]); first | exact sizePeer | exact sizeID | exact sizeLetter | exact sizeRd) (h := ?_); clear hm; intro w1 hm; (try simp only [rowOf_set, set_kind, set_req, set_done, k1, k2, k3, Value.cells, Act.eval, k7, k8, k9, kA, Option.getD_some] at hm)) | (refine wlSM (by rfl) hm (by rfl) (by with_reducible first | exact at0 | exact at1 | exact at2 | exact at3) (by rfl) (by first | rfl | exact idV_eq _ | exact peerV_eq _ _ | exact letV_eq _) (by first | exact peerC_one _ _ | exact idC_one _) (by first | (rw [peerC_size]; exact sizePeer) | (rw [idC_size]; exact sizeID)) (by simp only [rowOf_size, idC_size, peerC_size, letC_size]; decide) (by first | exact mid_from _ _ _ | exact mid_peer _ _ _ | exact mid_id _ _) ?_; clear hm; intro w1 hm; simp only [k2, k3] at hm) | (refine wlSC (hm := hm) (hi := by first | exact sizeInt | exact sizeU64 | exact sizeBool | exact sizeIntS | exact sizePeerS | exact sizeStr | exact sizeRdP | exact sizeErr) (ho := by first | decide | (simp only [rowOf_size, idC_size, peerC_size, letC_size]; omega) | (simp; done)) (h := ?_); clear hm; intro w1 hm; (try simp only [rowOf_set, set_kind, set_req, set_done, k1, k2, k3, Value.cells, Act.eval, k7, k8, k9, kA, Option.getD_some] at hm)) | (refine wlA (hz := by first | exact zeroPeer | exact zeroID | exact zeroLetter | exact zeroRd | exact zeroErr) (hm := hm) (h := ?_); clear hm; intro b1 w1 hm; (try simp only [rowOf_set, set_kind, set_req, set_done, k1, k2, k3, Value.cells, Act.eval, k7, k8, k9, kA, Option.getD_some] at hm)) | (refine wl_box (by rfl) rfl (by first | exact peerV_cells _ _ | exact letV_cells _ | exact idV_cells _ | rfl) hm ?_; clear hm; intro b1 w1 hm) | (refine wl_build (by rfl) (built_rdr _) rfl ?_; (try simp only [Act.put, k1, k2, k3]); (try simp only [← peerV_eq, ← idV_eq, ← letV_eq])) | (with_reducible first | refine stBs ?_ | refine stMs ?_ | refine stAp ?_ | refine stCo ?_)); (try simp only [k4, k5, k6, Act.put, k1, k2, k3]))
          go_meet
          exact ⟨0, s2, rfl, hm⟩
        · rcases h3 : gN 0 18446744073709551615 s2 with x | ⟨v, s3⟩
          · obtain ⟨r, hp⟩ := gN_x h3 rb (lo' := 0) (hi' := 18446744073709551615) rfl rfl
            have H3 := hid h3
            clear h3
            go_wp2_with ((first | refine wpList_skip (by rfl) ?_ | (refine wlL (hm := hm) (hu := by first | exact undPeer | exact undID | exact undLetter | exact undRd) (hi := by (try simp only [rowOf_size, idC_size, peerC_size, letC_size]); first | exact sizePeer | exact sizeID | exact sizeLetter | exact sizeRd) (h := ?_); (try simp only [Act.put, k1, k2, k3]); (try simp only [← peerV_eq, ← idV_eq, ← letV_eq])) | refine wlLC (hm := hm) (hv := by first | exact let0 _ | exact let1 _ | exact let22 _ | exact let43 _ | exact let44 _ | exact let45 _ | exact let66 _ | rfl) (hu := by first | exact undInt | exact undU64 | exact undBool | exact undIntS | exact undPeerS | exact undStr | exact undRdP | exact undErr) (h := ?_) | (refine yS (hm := hm) (hi := by (try simp only [rowOf_size, idC_size, peerC_size, letC_size]); first | exact sizePeer | exact sizeID | exact sizeLetter | exact sizeRd) (h := ?_); clear hm; intro w1 hm; (try simp only [rowOf_set, set_kind, set_req, set_done, k1, k2, k3, Value.cells, Act.eval, k7, k8, k9, kA, Option.getD_some] at hm)) | (refine wlSM (by rfl) hm (by rfl) (by with_reducible first | exact at0 | exact at1 | exact at2 | exact at3) (by rfl) (by first | rfl | exact idV_eq _ | exact peerV_eq _ _ | exact letV_eq _) (by first | exact peerC_one _ _ | exact idC_one _) (by first | (rw [peerC_size]; exact sizePeer) | (rw [idC_size]; exact sizeID)) (by simp only [rowOf_size, idC_size, peerC_size, letC_size]; decide) (by first | exact mid_from _ _ _ | exact mid_peer _ _ _ | exact mid_id _ _) ?_; clear hm; intro w1 hm; simp only [k2, k3] at hm) | (refine wlSC (hm := hm) (hi := by first | exact sizeInt | exact sizeU64 | exact sizeBool | exact sizeIntS | exact sizePeerS | exact sizeStr | exact sizeRdP | exact sizeErr) (ho := by first | decide | (simp only [rowOf_size, idC_size, peerC_size, letC_size]; omega) | (simp; done)) (h := ?_); clear hm; intro w1 hm; (try simp only [rowOf_set, set_kind, set_req, set_done, k1, k2, k3, Value.cells, Act.eval, k7, k8, k9, kA, Option.getD_some] at hm)) | (refine wlA (hz := by first | exact zeroPeer | exact zeroID | exact zeroLetter | exact zeroRd | exact zeroErr) (hm := hm) (h := ?_); clear hm; intro b1 w1 hm; (try simp only [rowOf_set, set_kind, set_req, set_done, k1, k2, k3, Value.cells, Act.eval, k7, k8, k9, kA, Option.getD_some] at hm)) | (refine wl_box (by rfl) rfl (by first | exact peerV_cells _ _ | exact letV_cells _ | exact idV_cells _ | rfl) hm ?_; clear hm; intro b1 w1 hm) | (refine wl_build (by rfl) (built_rdr _) rfl ?_; (try simp only [Act.put, k1, k2, k3]); (try simp only [← peerV_eq, ← idV_eq, ← letV_eq])) | (go_at_call 73; refine (hp _ (hm.heap (by with_reducible first | exact at0 | exact at1 | exact at2 | exact at3))).mono ?_; rintro e w1 ⟨rfl, hx⟩; replace hm := hm.callAt (by with_reducible first | exact at0 | exact at1 | exact at2 | exact at3) hx; clear hx; simp only [k2, k3] at hm) | (with_reducible first | refine stBs ?_ | refine stMs ?_ | refine stAp ?_ | refine stCo ?_)); (try simp only [k4, k5, k6, Act.put, k1, k2, k3]))
            refine get_pan ?_ hm (letC_size _) rfl rfl rfl rfl rfl
            rw [← HR.out]; unfold getA; simp only [HK.out, HF.out, ok_bind, F0.out, opN_true, H3.out]; rfl
          · have hp := gN_c h3 rb (lo' := 0) (hi' := 18446744073709551615) rfl rfl
            have H3 := hid h3
            clear h3
            go_wp2_with ((first | refine wpList_skip (by rfl) ?_ | (refine wlL (hm := hm) (hu := by first | exact undPeer | exact undID | exact undLetter | exact undRd) (hi := by (try simp only [rowOf_size, idC_size, peerC_size, letC_size]); first | exact sizePeer | exact sizeID | exact sizeLetter | exact sizeRd) (h := ?_); (try simp only [Act.put, k1, k2, k3]); (try simp only [← peerV_eq, ← idV_eq, ← letV_eq])) | refine wlLC (hm := hm) (hv := by first | exact let0 _ | exact let1 _ | exact let22 _ | exact let43 _ | exact let44 _ | exact let45 _ | exact let66 _ | rfl) (hu := by first | exact undInt | exact undU64 | exact undBool | exact undIntS | exact undPeerS | exact undStr | exact undRdP | exact undErr) (h := ?_) | (refine yS (hm := hm) (hi := by (try simp only [rowOf_size, idC_size, peerC_size, letC_size]); first | exact sizePeer | exact sizeID | exact sizeLetter | exact sizeRd) (h := ?_); clear hm; intro w1 hm; (try simp only [rowOf_set, set_kind, set_req, set_done, k1, k2, k3, Value.cells, Act.eval, k7, k8, k9, kA, Option.getD_some] at hm)) | (refine wlSM (by rfl) hm (by rfl) (by with_reducible first | exact at0 | exact at1 | exact at2 | exact at3) (by rfl) (by first | rfl | exact idV_eq _ | exact peerV_eq _ _ | exact letV_eq _) (by first | exact peerC_one _ _ | exact idC_one _) (by first | (rw [peerC_size]; exact sizePeer) | (rw [idC_size]; exact sizeID)) (by simp only [rowOf_size, idC_size, peerC_size, letC_size]; decide) (by first | exact mid_from _ _ _ | exact mid_peer _ _ _ | exact mid_id _ _) ?_; clear hm; intro w1 hm; simp only [k2, k3] at hm) | (refine wlSC (hm := hm) (hi := by first | exact sizeInt | exact sizeU64 | exact sizeBool | exact sizeIntS | exact sizePeerS | exact sizeStr | exact sizeRdP | exact sizeErr) (ho := by first | decide | (simp only [rowOf_size, idC_size, peerC_size, letC_size]; omega) | (simp; done)) (h := ?_); clear hm; intro w1 hm; (try simp only [rowOf_set, set_kind, set_req, set_done, k1, k2, k3, Value.cells, Act.eval, k7, k8, k9, kA, Option.getD_some] at hm)) | (refine wlA (hz := by first | exact zeroPeer | exact zeroID | exact zeroLetter | exact zeroRd | exact zeroErr) (hm := hm) (h := ?_); clear hm; intro b1 w1 hm; (try simp only [rowOf_set, set_kind, set_req, set_done, k1, k2, k3, Value.cells, Act.eval, k7, k8, k9, kA, Option.getD_some] at hm)) | (refine wl_box (by rfl) rfl (by first | exact peerV_cells _ _ | exact letV_cells _ | exact idV_cells _ | rfl) hm ?_; clear hm; intro b1 w1 hm) | (refine wl_build (by rfl) (built_rdr _) rfl ?_; (try simp only [Act.put, k1, k2, k3]); (try simp only [← peerV_eq, ← idV_eq, ← letV_eq])) | (go_at_call 73; refine (hp _ (hm.heap (by with_reducible first | exact at0 | exact at1 | exact at2 | exact at3))).mono ?_; rintro e w1 ⟨rfl, hx⟩; replace hm := hm.callAt (by with_reducible first | exact at0 | exact at1 | exact at2 | exact at3) hx; clear hx; simp only [k2, k3] at hm) | (with_reducible first | refine stBs ?_ | refine stMs ?_ | refine stAp ?_ | refine stCo ?_)); (try simp only [k4, k5, k6, Act.put, k1, k2, k3]))
            go_meet
            exact ⟨v, s3, H3.out, hm⟩
      clear hm g0
      obtain ⟨rq, s3, h3, hm⟩ := hcut
      have E3 := hid h3
      clear h3
      go_upto_if 35 with ((first | refine wpList_skip (by rfl) ?_ | (refine wlL (hm := hm) (hu := by first | exact undPeer | exact undID | exact undLetter | exact undRd) (hi := by (try simp only [rowOf_size, idC_size, peerC_size, letC_size]); first | exact sizePeer | exact sizeID | exact sizeLetter | exact sizeRd) (h := ?_); (try simp only [Act.put, k1, k2, k3]); (try simp only [← peerV_eq, ← idV_eq, ← letV_eq])) | refine wlLC (hm := hm) (hv := by first | exact let0 _ | exact let1 _ | exact let22 _ | exact let43 _ | exact let44 _ | exact let45 _ | exact let66 _ | rfl) (hu := by first | exact undInt | exact undU64 | exact undBool | exact undIntS | exact undPeerS | exact undStr | exact undRdP | exact undErr) (h := ?_) | (refine yS (hm := hm) (hi := by (try simp only [rowOf_size, idC_size, peerC_size, letC_size]); first | exact sizePeer | exact sizeID | exact sizeLetter | exact sizeRd) (h := ?_); clear hm; intro w1 hm; (try simp only [rowOf_set, set_kind, set_req, set_done, k1, k2, k3, Value.cells, Act.eval, k7, k8, k9, kA, Option.getD_some] at hm)) | (refine wlSM (by rfl) hm (by rfl) (by with_reducible first | exact at0 | exact at1 | exact at2 | exact at3) (by rfl) (by first | rfl | exact idV_eq _ | exact peerV_eq _ _ | exact letV_eq _) (by first | exact peerC_one _ _ | exact idC_one _) (by first | (rw [peerC_size]; exact sizePeer) | (rw [idC_size]; exact sizeID)) (by simp only [rowOf_size, idC_size, peerC_size, letC_size]; decide) (by first | exact mid_from _ _ _ | exact mid_peer _ _ _ | exact mid_id _ _) ?_; clear hm; intro w1 hm; simp only [k2, k3] at hm) | (refine wlSC (hm := hm) (hi := by first | exact sizeInt | exact sizeU64 | exact sizeBool | exact sizeIntS | exact sizePeerS | exact sizeStr | exact sizeRdP | exact sizeErr) (ho := by first | decide | (simp only [rowOf_size, idC_size, peerC_size, letC_size]; omega) | (simp; done)) (h := ?_); clear hm; intro w1 hm; (try simp only [rowOf_set, set_kind, set_req, set_done, k1, k2, k3, Value.cells, Act.eval, k7, k8, k9, kA, Option.getD_some] at hm)) | (refine wlA (hz := by first | exact zeroPeer | exact zeroID | exact zeroLetter | exact zeroRd | exact zeroErr) (hm := hm) (h := ?_); clear hm; intro b1 w1 hm; (try simp only [rowOf_set, set_kind, set_req, set_done, k1, k2, k3, Value.cells, Act.eval, k7, k8, k9, kA, Option.getD_some] at hm)) | (refine wl_box (by rfl) rfl (by first | exact peerV_cells _ _ | exact letV_cells _ | exact idV_cells _ | rfl) hm ?_; clear hm; intro b1 w1 hm) | (refine wl_build (by rfl) (built_rdr _) rfl ?_; (try simp only [Act.put, k1, k2, k3]); (try simp only [← peerV_eq, ← idV_eq, ← letV_eq])) | (with_reducible first | refine stBs ?_ | refine stMs ?_ | refine stAp ?_ | refine stCo ?_)); (try simp only [k4, k5, k6, Act.put, k1, k2, k3]))
      go_cut [] from 8 to 97 (fun wx => ∃ (id : Nat) (s4 : ByteArray), opI f1 s3 = .ok (id, s4) ∧ Mem w [] ((rc, .cells #[.pointer (some ⟨rb, 0, none⟩)] 103 (0, 0)) :: (rb, .cells #[.string s4] 76 (0, 0)) :: (eb, .cells #[.int .i64 0] 27 (0, 0)) :: (lb, .cells (letC ⟨(k : Int), (a : Int), p, rq, id, none, 0, 0, false, -1, 0, none, 0, 0⟩) 63 (0, 0)) :: []) wx)
      case first =>
        rcases f1 with _ | _
        · go_wp2_with ((first | refine wpList_skip (by rfl) ?_ | (refine wlL (hm := hm) (hu := by first | exact undPeer | exact undID | exact undLetter | exact undRd) (hi := by (try simp only [rowOf_size, idC_size, peerC_size, letC_size]); first | exact sizePeer | exact sizeID | exact sizeLetter | exact sizeRd) (h := ?_); (try simp only [Act.put, k1, k2, k3]); (try simp only [← peerV_eq, ← idV_eq, ← letV_eq])) | refine wlLC (hm := hm) (hv := by first | exact let0 _ | exact let1 _ | exact let22 _ | exact let43 _ | exact let44 _ | exact let45 _ | exact let66 _ | rfl) (hu := by first | exact undInt | exact undU64 | exact undBool | exact undIntS | exact undPeerS | exact undStr | exact undRdP | exact undErr) (h := ?_) | (refine yS (hm := hm) (hi := by (try simp only [rowOf_size, idC_size, peerC_size, letC_size]); first | exact sizePeer | exact sizeID | exact sizeLetter | exact sizeRd) (h := ?_); clear hm; intro w1 hm; (try simp only [rowOf_set, set_kind, set_req, set_done, k1, k2, k3, Value.cells, Act.eval, k7, k8, k9, kA, Option.getD_some] at hm)) | (refine wlSM (by rfl) hm (by rfl) (by with_reducible first | exact at0 | exact at1 | exact at2 | exact at3) (by rfl) (by first | rfl | exact idV_eq _ | exact peerV_eq _ _ | exact letV_eq _) (by first | exact peerC_one _ _ | exact idC_one _) (by first | (rw [peerC_size]; exact sizePeer) | (rw [idC_size]; exact sizeID)) (by simp only [rowOf_size, idC_size, peerC_size, letC_size]; decide) (by first | exact mid_from _ _ _ | exact mid_peer _ _ _ | exact mid_id _ _) ?_; clear hm; intro w1 hm; simp only [k2, k3] at hm) | (refine wlSC (hm := hm) (hi := by first | exact sizeInt | exact sizeU64 | exact sizeBool | exact sizeIntS | exact sizePeerS | exact sizeStr | exact sizeRdP | exact sizeErr) (ho := by first | decide | (simp only [rowOf_size, idC_size, peerC_size, letC_size]; omega) | (simp; done)) (h := ?_); clear hm; intro w1 hm; (try simp only [rowOf_set, set_kind, set_req, set_done, k1, k2, k3, Value.cells, Act.eval, k7, k8, k9, kA, Option.getD_some] at hm)) | (refine wlA (hz := by first | exact zeroPeer | exact zeroID | exact zeroLetter | exact zeroRd | exact zeroErr) (hm := hm) (h := ?_); clear hm; intro b1 w1 hm; (try simp only [rowOf_set, set_kind, set_req, set_done, k1, k2, k3, Value.cells, Act.eval, k7, k8, k9, kA, Option.getD_some] at hm)) | (refine wl_box (by rfl) rfl (by first | exact peerV_cells _ _ | exact letV_cells _ | exact idV_cells _ | rfl) hm ?_; clear hm; intro b1 w1 hm) | (refine wl_build (by rfl) (built_rdr _) rfl ?_; (try simp only [Act.put, k1, k2, k3]); (try simp only [← peerV_eq, ← idV_eq, ← letV_eq])) | (with_reducible first | refine stBs ?_ | refine stMs ?_ | refine stAp ?_ | refine stCo ?_)); (try simp only [k4, k5, k6, Act.put, k1, k2, k3]))
          go_meet
          exact ⟨0, s3, rfl, hm⟩
        · rcases h3 : gI s3 with x | ⟨v, s4⟩
          · obtain ⟨r, hp⟩ := gI_x h3 rb
            have H3 := hid h3
            clear h3
            go_wp2_with ((first | refine wpList_skip (by rfl) ?_ | (refine wlL (hm := hm) (hu := by first | exact undPeer | exact undID | exact undLetter | exact undRd) (hi := by (try simp only [rowOf_size, idC_size, peerC_size, letC_size]); first | exact sizePeer | exact sizeID | exact sizeLetter | exact sizeRd) (h := ?_); (try simp only [Act.put, k1, k2, k3]); (try simp only [← peerV_eq, ← idV_eq, ← letV_eq])) | refine wlLC (hm := hm) (hv := by first | exact let0 _ | exact let1 _ | exact let22 _ | exact let43 _ | exact let44 _ | exact let45 _ | exact let66 _ | rfl) (hu := by first | exact undInt | exact undU64 | exact undBool | exact undIntS | exact undPeerS | exact undStr | exact undRdP | exact undErr) (h := ?_) | (refine yS (hm := hm) (hi := by (try simp only [rowOf_size, idC_size, peerC_size, letC_size]); first | exact sizePeer | exact sizeID | exact sizeLetter | exact sizeRd) (h := ?_); clear hm; intro w1 hm; (try simp only [rowOf_set, set_kind, set_req, set_done, k1, k2, k3, Value.cells, Act.eval, k7, k8, k9, kA, Option.getD_some] at hm)) | (refine wlSM (by rfl) hm (by rfl) (by with_reducible first | exact at0 | exact at1 | exact at2 | exact at3) (by rfl) (by first | rfl | exact idV_eq _ | exact peerV_eq _ _ | exact letV_eq _) (by first | exact peerC_one _ _ | exact idC_one _) (by first | (rw [peerC_size]; exact sizePeer) | (rw [idC_size]; exact sizeID)) (by simp only [rowOf_size, idC_size, peerC_size, letC_size]; decide) (by first | exact mid_from _ _ _ | exact mid_peer _ _ _ | exact mid_id _ _) ?_; clear hm; intro w1 hm; simp only [k2, k3] at hm) | (refine wlSC (hm := hm) (hi := by first | exact sizeInt | exact sizeU64 | exact sizeBool | exact sizeIntS | exact sizePeerS | exact sizeStr | exact sizeRdP | exact sizeErr) (ho := by first | decide | (simp only [rowOf_size, idC_size, peerC_size, letC_size]; omega) | (simp; done)) (h := ?_); clear hm; intro w1 hm; (try simp only [rowOf_set, set_kind, set_req, set_done, k1, k2, k3, Value.cells, Act.eval, k7, k8, k9, kA, Option.getD_some] at hm)) | (refine wlA (hz := by first | exact zeroPeer | exact zeroID | exact zeroLetter | exact zeroRd | exact zeroErr) (hm := hm) (h := ?_); clear hm; intro b1 w1 hm; (try simp only [rowOf_set, set_kind, set_req, set_done, k1, k2, k3, Value.cells, Act.eval, k7, k8, k9, kA, Option.getD_some] at hm)) | (refine wl_box (by rfl) rfl (by first | exact peerV_cells _ _ | exact letV_cells _ | exact idV_cells _ | rfl) hm ?_; clear hm; intro b1 w1 hm) | (refine wl_build (by rfl) (built_rdr _) rfl ?_; (try simp only [Act.put, k1, k2, k3]); (try simp only [← peerV_eq, ← idV_eq, ← letV_eq])) | (go_at_call 75; refine (hp _ (hm.heap (by with_reducible first | exact at0 | exact at1 | exact at2 | exact at3))).mono ?_; rintro e w1 ⟨rfl, hx⟩; replace hm := hm.callAt (by with_reducible first | exact at0 | exact at1 | exact at2 | exact at3) hx; clear hx; simp only [k2, k3] at hm) | (with_reducible first | refine stBs ?_ | refine stMs ?_ | refine stAp ?_ | refine stCo ?_)); (try simp only [k4, k5, k6, Act.put, k1, k2, k3]))
            refine get_pan ?_ hm (letC_size _) rfl rfl rfl rfl rfl
            rw [← HR.out]; unfold getA; simp only [HK.out, HF.out, ok_bind, F0.out, E3.out, F1.out, opI_true, H3.out]; rfl
          · have hp := gI_c h3 rb
            have H3 := hid h3
            clear h3
            go_wp2_with ((first | refine wpList_skip (by rfl) ?_ | (refine wlL (hm := hm) (hu := by first | exact undPeer | exact undID | exact undLetter | exact undRd) (hi := by (try simp only [rowOf_size, idC_size, peerC_size, letC_size]); first | exact sizePeer | exact sizeID | exact sizeLetter | exact sizeRd) (h := ?_); (try simp only [Act.put, k1, k2, k3]); (try simp only [← peerV_eq, ← idV_eq, ← letV_eq])) | refine wlLC (hm := hm) (hv := by first | exact let0 _ | exact let1 _ | exact let22 _ | exact let43 _ | exact let44 _ | exact let45 _ | exact let66 _ | rfl) (hu := by first | exact undInt | exact undU64 | exact undBool | exact undIntS | exact undPeerS | exact undStr | exact undRdP | exact undErr) (h := ?_) | (refine yS (hm := hm) (hi := by (try simp only [rowOf_size, idC_size, peerC_size, letC_size]); first | exact sizePeer | exact sizeID | exact sizeLetter | exact sizeRd) (h := ?_); clear hm; intro w1 hm; (try simp only [rowOf_set, set_kind, set_req, set_done, k1, k2, k3, Value.cells, Act.eval, k7, k8, k9, kA, Option.getD_some] at hm)) | (refine wlSM (by rfl) hm (by rfl) (by with_reducible first | exact at0 | exact at1 | exact at2 | exact at3) (by rfl) (by first | rfl | exact idV_eq _ | exact peerV_eq _ _ | exact letV_eq _) (by first | exact peerC_one _ _ | exact idC_one _) (by first | (rw [peerC_size]; exact sizePeer) | (rw [idC_size]; exact sizeID)) (by simp only [rowOf_size, idC_size, peerC_size, letC_size]; decide) (by first | exact mid_from _ _ _ | exact mid_peer _ _ _ | exact mid_id _ _) ?_; clear hm; intro w1 hm; simp only [k2, k3] at hm) | (refine wlSC (hm := hm) (hi := by first | exact sizeInt | exact sizeU64 | exact sizeBool | exact sizeIntS | exact sizePeerS | exact sizeStr | exact sizeRdP | exact sizeErr) (ho := by first | decide | (simp only [rowOf_size, idC_size, peerC_size, letC_size]; omega) | (simp; done)) (h := ?_); clear hm; intro w1 hm; (try simp only [rowOf_set, set_kind, set_req, set_done, k1, k2, k3, Value.cells, Act.eval, k7, k8, k9, kA, Option.getD_some] at hm)) | (refine wlA (hz := by first | exact zeroPeer | exact zeroID | exact zeroLetter | exact zeroRd | exact zeroErr) (hm := hm) (h := ?_); clear hm; intro b1 w1 hm; (try simp only [rowOf_set, set_kind, set_req, set_done, k1, k2, k3, Value.cells, Act.eval, k7, k8, k9, kA, Option.getD_some] at hm)) | (refine wl_box (by rfl) rfl (by first | exact peerV_cells _ _ | exact letV_cells _ | exact idV_cells _ | rfl) hm ?_; clear hm; intro b1 w1 hm) | (refine wl_build (by rfl) (built_rdr _) rfl ?_; (try simp only [Act.put, k1, k2, k3]); (try simp only [← peerV_eq, ← idV_eq, ← letV_eq])) | (go_at_call 75; refine (hp _ (hm.heap (by with_reducible first | exact at0 | exact at1 | exact at2 | exact at3))).mono ?_; rintro e w1 ⟨rfl, hx⟩; replace hm := hm.callAt (by with_reducible first | exact at0 | exact at1 | exact at2 | exact at3) hx; clear hx; simp only [k2, k3] at hm) | (with_reducible first | refine stBs ?_ | refine stMs ?_ | refine stAp ?_ | refine stCo ?_)); (try simp only [k4, k5, k6, Act.put, k1, k2, k3]))
            go_meet
            exact ⟨v, s4, H3.out, hm⟩
      clear hm g1
      obtain ⟨id, s4, h3, hm⟩ := hcut
      have E4 := hid h3
      clear h3
      go_upto_if 41 with ((first | refine wpList_skip (by rfl) ?_ | (refine wlL (hm := hm) (hu := by first | exact undPeer | exact undID | exact undLetter | exact undRd) (hi := by (try simp only [rowOf_size, idC_size, peerC_size, letC_size]); first | exact sizePeer | exact sizeID | exact sizeLetter | exact sizeRd) (h := ?_); (try simp only [Act.put, k1, k2, k3]); (try simp only [← peerV_eq, ← idV_eq, ← letV_eq])) | refine wlLC (hm := hm) (hv := by first | exact let0 _ | exact let1 _ | exact let22 _ | exact let43 _ | exact let44 _ | exact let45 _ | exact let66 _ | rfl) (hu := by first | exact undInt | exact undU64 | exact undBool | exact undIntS | exact undPeerS | exact undStr | exact undRdP | exact undErr) (h := ?_) | (refine yS (hm := hm) (hi := by (try simp only [rowOf_size, idC_size, peerC_size, letC_size]); first | exact sizePeer | exact sizeID | exact sizeLetter | exact sizeRd) (h := ?_); clear hm; intro w1 hm; (try simp only [rowOf_set, set_kind, set_req, set_done, k1, k2, k3, Value.cells, Act.eval, k7, k8, k9, kA, Option.getD_some] at hm)) | (refine wlSM (by rfl) hm (by rfl) (by with_reducible first | exact at0 | exact at1 | exact at2 | exact at3) (by rfl) (by first | rfl | exact idV_eq _ | exact peerV_eq _ _ | exact letV_eq _) (by first | exact peerC_one _ _ | exact idC_one _) (by first | (rw [peerC_size]; exact sizePeer) | (rw [idC_size]; exact sizeID)) (by simp only [rowOf_size, idC_size, peerC_size, letC_size]; decide) (by first | exact mid_from _ _ _ | exact mid_peer _ _ _ | exact mid_id _ _) ?_; clear hm; intro w1 hm; simp only [k2, k3] at hm) | (refine wlSC (hm := hm) (hi := by first | exact sizeInt | exact sizeU64 | exact sizeBool | exact sizeIntS | exact sizePeerS | exact sizeStr | exact sizeRdP | exact sizeErr) (ho := by first | decide | (simp only [rowOf_size, idC_size, peerC_size, letC_size]; omega) | (simp; done)) (h := ?_); clear hm; intro w1 hm; (try simp only [rowOf_set, set_kind, set_req, set_done, k1, k2, k3, Value.cells, Act.eval, k7, k8, k9, kA, Option.getD_some] at hm)) | (refine wlA (hz := by first | exact zeroPeer | exact zeroID | exact zeroLetter | exact zeroRd | exact zeroErr) (hm := hm) (h := ?_); clear hm; intro b1 w1 hm; (try simp only [rowOf_set, set_kind, set_req, set_done, k1, k2, k3, Value.cells, Act.eval, k7, k8, k9, kA, Option.getD_some] at hm)) | (refine wl_box (by rfl) rfl (by first | exact peerV_cells _ _ | exact letV_cells _ | exact idV_cells _ | rfl) hm ?_; clear hm; intro b1 w1 hm) | (refine wl_build (by rfl) (built_rdr _) rfl ?_; (try simp only [Act.put, k1, k2, k3]); (try simp only [← peerV_eq, ← idV_eq, ← letV_eq])) | (with_reducible first | refine stBs ?_ | refine stMs ?_ | refine stAp ?_ | refine stCo ?_)); (try simp only [k4, k5, k6, Act.put, k1, k2, k3]))
      go_cut [] from 8 to 97 (fun wx => ∃ (av : List Nat) (s5 : ByteArray) (c : Option Addr) (n cap : Nat) (S : List (Nat × Obj)), opM (gN 0 999) f2 16 s4 = .ok (av, s5) ∧ RowSl 3 1 (.slice c n cap) (av.map intR) S ∧ Mem w [] ((rc, .cells #[.pointer (some ⟨rb, 0, none⟩)] 103 (0, 0)) :: (rb, .cells #[.string s5] 76 (0, 0)) :: (eb, .cells #[.int .i64 0] 27 (0, 0)) :: (lb, .cells (letC ⟨(k : Int), (a : Int), p, rq, id, c, n, cap, false, -1, 0, none, 0, 0⟩) 63 (0, 0)) :: S) wx)
      case first =>
        rcases f2 with _ | _
        · go_wp2_with ((first | refine wpList_skip (by rfl) ?_ | (refine wlL (hm := hm) (hu := by first | exact undPeer | exact undID | exact undLetter | exact undRd) (hi := by (try simp only [rowOf_size, idC_size, peerC_size, letC_size]); first | exact sizePeer | exact sizeID | exact sizeLetter | exact sizeRd) (h := ?_); (try simp only [Act.put, k1, k2, k3]); (try simp only [← peerV_eq, ← idV_eq, ← letV_eq])) | refine wlLC (hm := hm) (hv := by first | exact let0 _ | exact let1 _ | exact let22 _ | exact let43 _ | exact let44 _ | exact let45 _ | exact let66 _ | rfl) (hu := by first | exact undInt | exact undU64 | exact undBool | exact undIntS | exact undPeerS | exact undStr | exact undRdP | exact undErr) (h := ?_) | (refine yS (hm := hm) (hi := by (try simp only [rowOf_size, idC_size, peerC_size, letC_size]); first | exact sizePeer | exact sizeID | exact sizeLetter | exact sizeRd) (h := ?_); clear hm; intro w1 hm; (try simp only [rowOf_set, set_kind, set_req, set_done, k1, k2, k3, Value.cells, Act.eval, k7, k8, k9, kA, Option.getD_some] at hm)) | (refine wlSM (by rfl) hm (by rfl) (by with_reducible first | exact at0 | exact at1 | exact at2 | exact at3) (by rfl) (by first | rfl | exact idV_eq _ | exact peerV_eq _ _ | exact letV_eq _) (by first | exact peerC_one _ _ | exact idC_one _) (by first | (rw [peerC_size]; exact sizePeer) | (rw [idC_size]; exact sizeID)) (by simp only [rowOf_size, idC_size, peerC_size, letC_size]; decide) (by first | exact mid_from _ _ _ | exact mid_peer _ _ _ | exact mid_id _ _) ?_; clear hm; intro w1 hm; simp only [k2, k3] at hm) | (refine wlSC (hm := hm) (hi := by first | exact sizeInt | exact sizeU64 | exact sizeBool | exact sizeIntS | exact sizePeerS | exact sizeStr | exact sizeRdP | exact sizeErr) (ho := by first | decide | (simp only [rowOf_size, idC_size, peerC_size, letC_size]; omega) | (simp; done)) (h := ?_); clear hm; intro w1 hm; (try simp only [rowOf_set, set_kind, set_req, set_done, k1, k2, k3, Value.cells, Act.eval, k7, k8, k9, kA, Option.getD_some] at hm)) | (refine wlA (hz := by first | exact zeroPeer | exact zeroID | exact zeroLetter | exact zeroRd | exact zeroErr) (hm := hm) (h := ?_); clear hm; intro b1 w1 hm; (try simp only [rowOf_set, set_kind, set_req, set_done, k1, k2, k3, Value.cells, Act.eval, k7, k8, k9, kA, Option.getD_some] at hm)) | (refine wl_box (by rfl) rfl (by first | exact peerV_cells _ _ | exact letV_cells _ | exact idV_cells _ | rfl) hm ?_; clear hm; intro b1 w1 hm) | (refine wl_build (by rfl) (built_rdr _) rfl ?_; (try simp only [Act.put, k1, k2, k3]); (try simp only [← peerV_eq, ← idV_eq, ← letV_eq])) | (with_reducible first | refine stBs ?_ | refine stMs ?_ | refine stAp ?_ | refine stCo ?_)); (try simp only [k4, k5, k6, Act.put, k1, k2, k3]))
          go_meet
          exact ⟨[], s4, none, 0, 0, [], rfl, RowSl.nil _ _, hm⟩
        · rcases h3 : gN 0 16 s4 with x | ⟨n, s5⟩
          · obtain ⟨r, hp⟩ := gN_x h3 rb (lo' := 0) (hi' := 16) rfl rfl
            have H3 := hid h3
            clear h3
            go_wp2_with ((first | refine wpList_skip (by rfl) ?_ | (refine wlL (hm := hm) (hu := by first | exact undPeer | exact undID | exact undLetter | exact undRd) (hi := by (try simp only [rowOf_size, idC_size, peerC_size, letC_size]); first | exact sizePeer | exact sizeID | exact sizeLetter | exact sizeRd) (h := ?_); (try simp only [Act.put, k1, k2, k3]); (try simp only [← peerV_eq, ← idV_eq, ← letV_eq])) | refine wlLC (hm := hm) (hv := by first | exact let0 _ | exact let1 _ | exact let22 _ | exact let43 _ | exact let44 _ | exact let45 _ | exact let66 _ | rfl) (hu := by first | exact undInt | exact undU64 | exact undBool | exact undIntS | exact undPeerS | exact undStr | exact undRdP | exact undErr) (h := ?_) | (refine yS (hm := hm) (hi := by (try simp only [rowOf_size, idC_size, peerC_size, letC_size]); first | exact sizePeer | exact sizeID | exact sizeLetter | exact sizeRd) (h := ?_); clear hm; intro w1 hm; (try simp only [rowOf_set, set_kind, set_req, set_done, k1, k2, k3, Value.cells, Act.eval, k7, k8, k9, kA, Option.getD_some] at hm)) | (refine wlSM (by rfl) hm (by rfl) (by with_reducible first | exact at0 | exact at1 | exact at2 | exact at3) (by rfl) (by first | rfl | exact idV_eq _ | exact peerV_eq _ _ | exact letV_eq _) (by first | exact peerC_one _ _ | exact idC_one _) (by first | (rw [peerC_size]; exact sizePeer) | (rw [idC_size]; exact sizeID)) (by simp only [rowOf_size, idC_size, peerC_size, letC_size]; decide) (by first | exact mid_from _ _ _ | exact mid_peer _ _ _ | exact mid_id _ _) ?_; clear hm; intro w1 hm; simp only [k2, k3] at hm) | (refine wlSC (hm := hm) (hi := by first | exact sizeInt | exact sizeU64 | exact sizeBool | exact sizeIntS | exact sizePeerS | exact sizeStr | exact sizeRdP | exact sizeErr) (ho := by first | decide | (simp only [rowOf_size, idC_size, peerC_size, letC_size]; omega) | (simp; done)) (h := ?_); clear hm; intro w1 hm; (try simp only [rowOf_set, set_kind, set_req, set_done, k1, k2, k3, Value.cells, Act.eval, k7, k8, k9, kA, Option.getD_some] at hm)) | (refine wlA (hz := by first | exact zeroPeer | exact zeroID | exact zeroLetter | exact zeroRd | exact zeroErr) (hm := hm) (h := ?_); clear hm; intro b1 w1 hm; (try simp only [rowOf_set, set_kind, set_req, set_done, k1, k2, k3, Value.cells, Act.eval, k7, k8, k9, kA, Option.getD_some] at hm)) | (refine wl_box (by rfl) rfl (by first | exact peerV_cells _ _ | exact letV_cells _ | exact idV_cells _ | rfl) hm ?_; clear hm; intro b1 w1 hm) | (refine wl_build (by rfl) (built_rdr _) rfl ?_; (try simp only [Act.put, k1, k2, k3]); (try simp only [← peerV_eq, ← idV_eq, ← letV_eq])) | (go_at_call 73; refine (hp _ (hm.heap (by with_reducible first | exact at0 | exact at1 | exact at2 | exact at3))).mono ?_; rintro e w1 ⟨rfl, hx⟩; replace hm := hm.callAt (by with_reducible first | exact at0 | exact at1 | exact at2 | exact at3) hx; clear hx; simp only [k2, k3] at hm) | (with_reducible first | refine stBs ?_ | refine stMs ?_ | refine stAp ?_ | refine stCo ?_)); (try simp only [k4, k5, k6, Act.put, k1, k2, k3]))
            refine get_pan ?_ hm (letC_size _) rfl rfl rfl rfl rfl
            rw [← HR.out]; unfold getA; simp only [HK.out, HF.out, ok_bind, F0.out, E3.out, F1.out, E4.out, F2.out, opM_true, H3.out]; rfl
          · have hp := gN_c h3 rb (lo' := 0) (hi' := 16) rfl rfl
            have hn16 : n ≤ 16 := (gN_ok h3).2.2.2.2
            have H3 := hid h3
            clear h3
            go_wp2_with ((first | refine wpList_skip (by rfl) ?_ | (refine wlL (hm := hm) (hu := by first | exact undPeer | exact undID | exact undLetter | exact undRd) (hi := by (try simp only [rowOf_size, idC_size, peerC_size, letC_size]); first | exact sizePeer | exact sizeID | exact sizeLetter | exact sizeRd) (h := ?_); (try simp only [Act.put, k1, k2, k3]); (try simp only [← peerV_eq, ← idV_eq, ← letV_eq])) | refine wlLC (hm := hm) (hv := by first | exact let0 _ | exact let1 _ | exact let22 _ | exact let43 _ | exact let44 _ | exact let45 _ | exact let66 _ | rfl) (hu := by first | exact undInt | exact undU64 | exact undBool | exact undIntS | exact undPeerS | exact undStr | exact undRdP | exact undErr) (h := ?_) | (refine yS (hm := hm) (hi := by (try simp only [rowOf_size, idC_size, peerC_size, letC_size]); first | exact sizePeer | exact sizeID | exact sizeLetter | exact sizeRd) (h := ?_); clear hm; intro w1 hm; (try simp only [rowOf_set, set_kind, set_req, set_done, k1, k2, k3, Value.cells, Act.eval, k7, k8, k9, kA, Option.getD_some] at hm)) | (refine wlSM (by rfl) hm (by rfl) (by with_reducible first | exact at0 | exact at1 | exact at2 | exact at3) (by rfl) (by first | rfl | exact idV_eq _ | exact peerV_eq _ _ | exact letV_eq _) (by first | exact peerC_one _ _ | exact idC_one _) (by first | (rw [peerC_size]; exact sizePeer) | (rw [idC_size]; exact sizeID)) (by simp only [rowOf_size, idC_size, peerC_size, letC_size]; decide) (by first | exact mid_from _ _ _ | exact mid_peer _ _ _ | exact mid_id _ _) ?_; clear hm; intro w1 hm; simp only [k2, k3] at hm) | (refine wlSC (hm := hm) (hi := by first | exact sizeInt | exact sizeU64 | exact sizeBool | exact sizeIntS | exact sizePeerS | exact sizeStr | exact sizeRdP | exact sizeErr) (ho := by first | decide | (simp only [rowOf_size, idC_size, peerC_size, letC_size]; omega) | (simp; done)) (h := ?_); clear hm; intro w1 hm; (try simp only [rowOf_set, set_kind, set_req, set_done, k1, k2, k3, Value.cells, Act.eval, k7, k8, k9, kA, Option.getD_some] at hm)) | (refine wlA (hz := by first | exact zeroPeer | exact zeroID | exact zeroLetter | exact zeroRd | exact zeroErr) (hm := hm) (h := ?_); clear hm; intro b1 w1 hm; (try simp only [rowOf_set, set_kind, set_req, set_done, k1, k2, k3, Value.cells, Act.eval, k7, k8, k9, kA, Option.getD_some] at hm)) | (refine wl_box (by rfl) rfl (by first | exact peerV_cells _ _ | exact letV_cells _ | exact idV_cells _ | rfl) hm ?_; clear hm; intro b1 w1 hm) | (refine wl_build (by rfl) (built_rdr _) rfl ?_; (try simp only [Act.put, k1, k2, k3]); (try simp only [← peerV_eq, ← idV_eq, ← letV_eq])) | (go_at_call 73; refine (hp _ (hm.heap (by with_reducible first | exact at0 | exact at1 | exact at2 | exact at3))).mono ?_; rintro e w1 ⟨rfl, hx⟩; replace hm := hm.callAt (by with_reducible first | exact at0 | exact at1 | exact at2 | exact at3) hx; clear hx; simp only [k2, k3] at hm) | (with_reducible first | refine stBs ?_ | refine stMs ?_ | refine stAp ?_ | refine stCo ?_)); (try simp only [k4, k5, k6, Act.put, k1, k2, k3]))
            clear hp
            go_loopw [44] (fun vi wr => ∃ (i : Nat) (av : List Nat) (s6 : ByteArray) (c : Option Addr) (cap : Nat) (S : List (Nat × Obj)), i ≤ n ∧ vi = .int .u64 (i : Int) ∧ gMany (gN 0 999) i s5 = .ok (av, s6) ∧ RowSl 3 1 (.slice c i cap) (av.map intR) S ∧ Mem w [] ((rc, .cells #[.pointer (some ⟨rb, 0, none⟩)] 103 (0, 0)) :: (rb, .cells #[.string s6] 76 (0, 0)) :: (eb, .cells #[.int .i64 0] 27 (0, 0)) :: (lb, .cells (letC ⟨(k : Int), (a : Int), p, rq, id, c, i, cap, false, -1, 0, none, 0, 0⟩) 63 (0, 0)) :: S) wr) (fun vi _ => (n - intOf vi).toNat)
            case atStart => exact ⟨0, [], s5, none, 0, [], by omega, rfl, rfl, RowSl.nil _ _, hm⟩
            case round =>
              clear hm
              obtain ⟨i, av, s6, c, cap, S, hi, rfl, hg, hrow, hm⟩ := hrel
              have HLen := hid (show (av.map intR).length ≤ 16 by rw [List.length_map, gMany_len hg]; omega)
              by_cases hin : i < n
              · have e1 : (i : Int) < (n : Int) := by omega
                have gg : IntKind.u64.wrap ((i : Int) + 1) = (i : Int) + 1 := wrap_u64 (by omega) (by omega)
                have HI := hid hi
                have HIN := hid hin
                have HG := hid hg
                have HS := hid hrow
                have HN := hid hn16
                clear hi hin hg hrow hn16
                rcases hv : gN 0 999 s6 with x | ⟨v, s7⟩
                · obtain ⟨r, hp⟩ := gN_x hv rb (lo' := 0) (hi' := 999) rfl rfl
                  have HV := hid hv
                  clear hv
                  go_wp2_with (with_reducible first | refine stAl ?_ | refine stBo ?_ | refine stLo ?_ | refine stSo ?_ | refine stBu ?_ | refine stBs ?_ | refine stMs ?_ | refine stAp ?_ | refine stCo ?_)
                  refine wp_region_G (C := [(100, Mem w [] [(rc, .cells #[.pointer (some ⟨rb, 0, none⟩)] 103 (0, 0))]), (6, Mem w [] [(rc, .cells #[.pointer (some ⟨rb, 0, none⟩)] 103 (0, 0)), (lb, .cells (letC ⟨(k : Int), (a : Int), p, rq, id, c, i, cap, false, -1, 0, none, 0, 0⟩) 63 (0, 0))])]) (by kernel_rfl) ?_
                  replace hm := hm.drew
                  have hS : Held [(100, Mem w [] [(rc, .cells #[.pointer (some ⟨rb, 0, none⟩)] 103 (0, 0))]), (6, Mem w [] [(rc, .cells #[.pointer (some ⟨rb, 0, none⟩)] 103 (0, 0)), (lb, .cells (letC ⟨(k : Int), (a : Int), p, rq, id, c, i, cap, false, -1, 0, none, 0, 0⟩) 63 (0, 0))])] [] _ := Held.cons (hm.sub (.cons_cons _ (List.nil_sublist _))) (Held.cons (hm.sub (.cons_cons _ (.cons _ (.cons _ (.cons_cons _ (List.nil_sublist _)))))) (Held.nil _ _))
                  refine wgS (i := 0) 0 (hQ := by intro _ _ _ h; exact get_put (by decide) (by decide) h) (hS := hS) (h := ?_); simp only [k4, k5, k6, Act.put, k1, k2, k3]
                  refine wgS (i := 1) 1 (hQ := by intro _ _ _ h; exact get_put (by decide) (by decide) h) (hS := hS) (h1 := ld_cell (i := 1) rfl rfl (let43 _) undIntS rfl) (h := ?_); simp only [k4, k5, k6, Act.put, k1, k2, k3]
                  refine wgS (i := 2) 0 (hQ := by intro _ _ _ h; exact get_put (by decide) (by decide) h) (hS := hS) (h1 := ld_row (i := 0) rfl rfl undRd rfl (by exact sizeRd)) (h := ?_); simp only [k4, k5, k6, Act.put, k1, k2, k3]
                  refine wgO (i := 3) (done := []) (h := fun K' hK => ?_); go_simp; refine (hp _ (hm.heap (i := 1) rfl)).mono ?_; rintro e w7 ⟨rfl, hx⟩; replace hm := hm.callAt (i := 1) rfl hx; clear hx hS; simp only [k2, k3] at hm
                  refine get_pan ?_ hm (letC_size _) rfl rfl rfl rfl rfl
                  rw [← HR.out]; unfold getA; simp only [HK.out, HF.out, ok_bind, F0.out, E3.out, F1.out, E4.out, F2.out, opM_true, H3.out, gMany_err HG.out HV.out HIN.out]; rfl
                · have hp := gN_c hv rb (lo' := 0) (hi' := 999) rfl rfl
                  have hwv := wrap_small (gN_ok hv).2.2.2.2
                  have HV := hid hv
                  clear hv
                  have HLen2 := hid (show (av.map intR ++ [intR v]).length = i + 1 by rw [List.length_append, List.length_map, gMany_len HG.out]; rfl)
                  go_wp2_with (with_reducible first | refine stAl ?_ | refine stBo ?_ | refine stLo ?_ | refine stSo ?_ | refine stBu ?_ | refine stBs ?_ | refine stMs ?_ | refine stAp ?_ | refine stCo ?_)
                  refine wp_region_G (C := [(100, Mem w [] [(rc, .cells #[.pointer (some ⟨rb, 0, none⟩)] 103 (0, 0))]), (6, Mem w [] [(rc, .cells #[.pointer (some ⟨rb, 0, none⟩)] 103 (0, 0)), (lb, .cells (letC ⟨(k : Int), (a : Int), p, rq, id, c, i, cap, false, -1, 0, none, 0, 0⟩) 63 (0, 0))])]) (by kernel_rfl) ?_
                  replace hm := hm.drew
                  have hS : Held [(100, Mem w [] [(rc, .cells #[.pointer (some ⟨rb, 0, none⟩)] 103 (0, 0))]), (6, Mem w [] [(rc, .cells #[.pointer (some ⟨rb, 0, none⟩)] 103 (0, 0)), (lb, .cells (letC ⟨(k : Int), (a : Int), p, rq, id, c, i, cap, false, -1, 0, none, 0, 0⟩) 63 (0, 0))])] [] _ := Held.cons (hm.sub (.cons_cons _ (List.nil_sublist _))) (Held.cons (hm.sub (.cons_cons _ (.cons _ (.cons _ (.cons_cons _ (List.nil_sublist _)))))) (Held.nil _ _))
                  refine wgS (i := 0) 0 (hQ := by intro _ _ _ h; exact get_put (by decide) (by decide) h) (hS := hS) (h := ?_); simp only [k4, k5, k6, Act.put, k1, k2, k3]
                  refine wgS (i := 1) 1 (hQ := by intro _ _ _ h; exact get_put (by decide) (by decide) h) (hS := hS) (h1 := ld_cell (i := 1) rfl rfl (let43 _) undIntS rfl) (h := ?_); simp only [k4, k5, k6, Act.put, k1, k2, k3]
                  refine wgS (i := 2) 0 (hQ := by intro _ _ _ h; exact get_put (by decide) (by decide) h) (hS := hS) (h1 := ld_row (i := 0) rfl rfl undRd rfl (by exact sizeRd)) (h := ?_); simp only [k4, k5, k6, Act.put, k1, k2, k3]
                  refine wgO (i := 3) (done := []) (h := fun K' hK => ?_); go_simp; refine (hp _ (hm.heap (i := 1) rfl)).mono ?_; rintro e w7 ⟨rfl, hx⟩; replace hm := hm.callAt (i := 1) rfl hx; clear hx hS; simp only [k2, k3] at hm
                  have hS : Held [(100, Mem w [] [(rc, .cells #[.pointer (some ⟨rb, 0, none⟩)] 103 (0, 0))]), (6, Mem w [] [(rc, .cells #[.pointer (some ⟨rb, 0, none⟩)] 103 (0, 0)), (lb, .cells (letC ⟨(k : Int), (a : Int), p, rq, id, c, i, cap, false, -1, 0, none, 0, 0⟩) 63 (0, 0))])] [] _ := Held.cons (hm.sub (.cons_cons _ (List.nil_sublist _))) (Held.cons (hm.sub (.cons_cons _ (.cons _ (.cons _ (.cons_cons _ (List.nil_sublist _)))))) (Held.nil _ _))
                  refine hK.out _ _ hS ?_; clear hK K'; (try (simp only [k4, k5, k6, Act.put, k1, k2, k3]))
                  refine wgS (i := 4) 0 (hQ := by intro _ _ _ h; exact get_put (by decide) (by decide) h) (hS := hS) (h := ?_); simp only [k4, k5, k6, Act.put, k1, k2, k3]
                  refine wgO (i := 5) (done := []) (h := fun K' hK => ?_); refine ow_buildSlice (ps := [(0, .int .i64 (v : Int))]) (cells := rowOf 1 (intR v)) hm elInt (by decide) (by decide) (by simp [Act.eval]) (fill_int _ _) ?_; clear hm hS; intro gn w8 hm
                  have hS : Held [(100, Mem w [] [(rc, .cells #[.pointer (some ⟨rb, 0, none⟩)] 103 (0, 0))]), (6, Mem w [] [(rc, .cells #[.pointer (some ⟨rb, 0, none⟩)] 103 (0, 0)), (lb, .cells (letC ⟨(k : Int), (a : Int), p, rq, id, c, i, cap, false, -1, 0, none, 0, 0⟩) 63 (0, 0))])] [] _ := Held.cons (hm.sub (.cons _ (.cons_cons _ (List.nil_sublist _)))) (Held.cons (hm.sub (.cons _ (.cons_cons _ (.cons _ (.cons _ (.cons_cons _ (List.nil_sublist _))))))) (Held.nil _ _))
                  refine hK.out _ _ hS ?_; clear hK K'; (try (simp only [k4, k5, k6, Act.put, k1, k2, k3]))
                  refine wgO (i := 6) (done := [6]) (h := fun K' hK => ?_); refine ow_append_row (R := [_, _, _, _]) (F := intR v) elInt rfl (by decide) (fun _ _ => rfl) HS.out hm rfl rfl (by have := HLen.out; omega) (by have := HLen.out; omega) ?_; clear hm hS; intro sv S2 w9 hS2 hm; obtain ⟨c2, cap2, rfl⟩ := hS2.len HLen2.out
                  have hS : Held [(100, Mem w [] [(rc, .cells #[.pointer (some ⟨rb, 0, none⟩)] 103 (0, 0))]), (6, Mem w [] [(rc, .cells #[.pointer (some ⟨rb, 0, none⟩)] 103 (0, 0)), (lb, .cells (letC ⟨(k : Int), (a : Int), p, rq, id, c, i, cap, false, -1, 0, none, 0, 0⟩) 63 (0, 0))])] [6] _ := Held.cons (hm.sub (.cons_cons _ (List.nil_sublist _))) (Held.skip rfl (Held.nil _ _))
                  refine hK.out _ _ hS ?_; clear hK K'; (try (simp only [k4, k5, k6, Act.put, k1, k2, k3]))
                  refine wgS (i := 7) 0 (hQ := by intro _ _ _ h; exact get_put (by decide) (by decide) h) (hS := hS) (h := ?_); simp only [k4, k5, k6, Act.put, k1, k2, k3]
                  refine wgO (i := 8) (done := [6]) (h := fun K' hK => ?_); refine ow_storeCellE (i := 3) hm rfl rfl rfl rfl sizeIntS (by rw [letC_size]; decide) (set_av _ _ _ _) ?_; clear hm hS; intro w10 hm; simp only [List.cons_append, List.nil_append, k2, k3] at hm
                  have hS : Held [(100, Mem w [] [(rc, .cells #[.pointer (some ⟨rb, 0, none⟩)] 103 (0, 0))]), (6, Mem w [] [(rc, .cells #[.pointer (some ⟨rb, 0, none⟩)] 103 (0, 0)), (lb, .cells (letC ⟨(k : Int), (a : Int), p, rq, id, c, i, cap, false, -1, 0, none, 0, 0⟩) 63 (0, 0))])] [6] _ := Held.cons (hm.sub (.cons_cons _ (List.nil_sublist _))) (Held.skip rfl (Held.nil _ _))
                  refine hK.out _ _ hS ?_; clear hK K' hS; simp only [k4, k5, k6, Act.put, k1, k2, k3]
                  refine wgE (h := ?_)
                  clear hp
                  go_wp2_with ((first | refine wpList_skip (by rfl) ?_ | (refine wlL (hm := hm) (hu := by first | exact undPeer | exact undID | exact undLetter | exact undRd) (hi := by (try simp only [rowOf_size, idC_size, peerC_size, letC_size]); first | exact sizePeer | exact sizeID | exact sizeLetter | exact sizeRd) (h := ?_); (try simp only [Act.put, k1, k2, k3]); (try simp only [← peerV_eq, ← idV_eq, ← letV_eq])) | refine wlLC (hm := hm) (hv := by first | exact let0 _ | exact let1 _ | exact let22 _ | exact let43 _ | exact let44 _ | exact let45 _ | exact let66 _ | rfl) (hu := by first | exact undInt | exact undU64 | exact undBool | exact undIntS | exact undPeerS | exact undStr | exact undRdP | exact undErr) (h := ?_) | (refine yS (hm := hm) (hi := by (try simp only [rowOf_size, idC_size, peerC_size, letC_size]); first | exact sizePeer | exact sizeID | exact sizeLetter | exact sizeRd) (h := ?_); clear hm; intro w1 hm; (try simp only [rowOf_set, set_kind, set_req, set_done, k1, k2, k3, Value.cells, Act.eval, k7, k8, k9, kA, Option.getD_some] at hm)) | (refine wlSM (by rfl) hm (by rfl) (by with_reducible first | exact at0 | exact at1 | exact at2 | exact at3) (by rfl) (by first | rfl | exact idV_eq _ | exact peerV_eq _ _ | exact letV_eq _) (by first | exact peerC_one _ _ | exact idC_one _) (by first | (rw [peerC_size]; exact sizePeer) | (rw [idC_size]; exact sizeID)) (by simp only [rowOf_size, idC_size, peerC_size, letC_size]; decide) (by first | exact mid_from _ _ _ | exact mid_peer _ _ _ | exact mid_id _ _) ?_; clear hm; intro w1 hm; simp only [k2, k3] at hm) | (refine wlSC (hm := hm) (hi := by first | exact sizeInt | exact sizeU64 | exact sizeBool | exact sizeIntS | exact sizePeerS | exact sizeStr | exact sizeRdP | exact sizeErr) (ho := by first | decide | (simp only [rowOf_size, idC_size, peerC_size, letC_size]; omega) | (simp; done)) (h := ?_); clear hm; intro w1 hm; (try simp only [rowOf_set, set_kind, set_req, set_done, k1, k2, k3, Value.cells, Act.eval, k7, k8, k9, kA, Option.getD_some] at hm)) | (refine wlA (hz := by first | exact zeroPeer | exact zeroID | exact zeroLetter | exact zeroRd | exact zeroErr) (hm := hm) (h := ?_); clear hm; intro b1 w1 hm; (try simp only [rowOf_set, set_kind, set_req, set_done, k1, k2, k3, Value.cells, Act.eval, k7, k8, k9, kA, Option.getD_some] at hm)) | (refine wl_box (by rfl) rfl (by first | exact peerV_cells _ _ | exact letV_cells _ | exact idV_cells _ | rfl) hm ?_; clear hm; intro b1 w1 hm) | (refine wl_build (by rfl) (built_rdr _) rfl ?_; (try simp only [Act.put, k1, k2, k3]); (try simp only [← peerV_eq, ← idV_eq, ← letV_eq])) | (with_reducible first | refine stBs ?_ | refine stMs ?_ | refine stAp ?_ | refine stCo ?_)); (try simp only [k4, k5, k6, Act.put, k1, k2, k3]))
                  go_roundw
                  case rel => exact ⟨i + 1, av ++ [v], s7, c2, cap2, S2, HIN.out, by go_num, gMany_ok HG.out HV.out, by rw [List.map_append]; exact hS2, hm⟩
                  case measure => (have := HIN.out; simp [intOf]; try omega)
              · obtain rfl : i = n := by omega
                have e1 : ¬ (i : Int) < (i : Int) := by omega
                have HG := hid hg
                have HS := hid hrow
                clear hi hin hg hrow hn16
                go_wp2_with ((first | refine wpList_skip (by rfl) ?_ | (refine wlL (hm := hm) (hu := by first | exact undPeer | exact undID | exact undLetter | exact undRd) (hi := by (try simp only [rowOf_size, idC_size, peerC_size, letC_size]); first | exact sizePeer | exact sizeID | exact sizeLetter | exact sizeRd) (h := ?_); (try simp only [Act.put, k1, k2, k3]); (try simp only [← peerV_eq, ← idV_eq, ← letV_eq])) | refine wlLC (hm := hm) (hv := by first | exact let0 _ | exact let1 _ | exact let22 _ | exact let43 _ | exact let44 _ | exact let45 _ | exact let66 _ | rfl) (hu := by first | exact undInt | exact undU64 | exact undBool | exact undIntS | exact undPeerS | exact undStr | exact undRdP | exact undErr) (h := ?_) | (refine yS (hm := hm) (hi := by (try simp only [rowOf_size, idC_size, peerC_size, letC_size]); first | exact sizePeer | exact sizeID | exact sizeLetter | exact sizeRd) (h := ?_); clear hm; intro w1 hm; (try simp only [rowOf_set, set_kind, set_req, set_done, k1, k2, k3, Value.cells, Act.eval, k7, k8, k9, kA, Option.getD_some] at hm)) | (refine wlSM (by rfl) hm (by rfl) (by with_reducible first | exact at0 | exact at1 | exact at2 | exact at3) (by rfl) (by first | rfl | exact idV_eq _ | exact peerV_eq _ _ | exact letV_eq _) (by first | exact peerC_one _ _ | exact idC_one _) (by first | (rw [peerC_size]; exact sizePeer) | (rw [idC_size]; exact sizeID)) (by simp only [rowOf_size, idC_size, peerC_size, letC_size]; decide) (by first | exact mid_from _ _ _ | exact mid_peer _ _ _ | exact mid_id _ _) ?_; clear hm; intro w1 hm; simp only [k2, k3] at hm) | (refine wlSC (hm := hm) (hi := by first | exact sizeInt | exact sizeU64 | exact sizeBool | exact sizeIntS | exact sizePeerS | exact sizeStr | exact sizeRdP | exact sizeErr) (ho := by first | decide | (simp only [rowOf_size, idC_size, peerC_size, letC_size]; omega) | (simp; done)) (h := ?_); clear hm; intro w1 hm; (try simp only [rowOf_set, set_kind, set_req, set_done, k1, k2, k3, Value.cells, Act.eval, k7, k8, k9, kA, Option.getD_some] at hm)) | (refine wlA (hz := by first | exact zeroPeer | exact zeroID | exact zeroLetter | exact zeroRd | exact zeroErr) (hm := hm) (h := ?_); clear hm; intro b1 w1 hm; (try simp only [rowOf_set, set_kind, set_req, set_done, k1, k2, k3, Value.cells, Act.eval, k7, k8, k9, kA, Option.getD_some] at hm)) | (refine wl_box (by rfl) rfl (by first | exact peerV_cells _ _ | exact letV_cells _ | exact idV_cells _ | rfl) hm ?_; clear hm; intro b1 w1 hm) | (refine wl_build (by rfl) (built_rdr _) rfl ?_; (try simp only [Act.put, k1, k2, k3]); (try simp only [← peerV_eq, ← idV_eq, ← letV_eq])) | (with_reducible first | refine stBs ?_ | refine stMs ?_ | refine stAp ?_ | refine stCo ?_)); (try simp only [k4, k5, k6, Act.put, k1, k2, k3]))
                go_meet
                exact ⟨av, s6, c, i, cap, S, by simp only [opM_true, H3.out, ok_bind, HG.out], HS.out, hm⟩
      clear hm g2
      obtain ⟨av, s5, ac, an, acap, SA, h3, hrow, hm⟩ := hcut
      have E5 := hid h3
      have HSA := hid hrow
      clear h3 hrow
      go_upto_if 57 with ((first | refine wpList_skip (by rfl) ?_ | (refine wlL (hm := hm) (hu := by first | exact undPeer | exact undID | exact undLetter | exact undRd) (hi := by (try simp only [rowOf_size, idC_size, peerC_size, letC_size]); first | exact sizePeer | exact sizeID | exact sizeLetter | exact sizeRd) (h := ?_); (try simp only [Act.put, k1, k2, k3]); (try simp only [← peerV_eq, ← idV_eq, ← letV_eq])) | refine wlLC (hm := hm) (hv := by first | exact let0 _ | exact let1 _ | exact let22 _ | exact let43 _ | exact let44 _ | exact let45 _ | exact let66 _ | rfl) (hu := by first | exact undInt | exact undU64 | exact undBool | exact undIntS | exact undPeerS | exact undStr | exact undRdP | exact undErr) (h := ?_) | (refine yS (hm := hm) (hi := by (try simp only [rowOf_size, idC_size, peerC_size, letC_size]); first | exact sizePeer | exact sizeID | exact sizeLetter | exact sizeRd) (h := ?_); clear hm; intro w1 hm; (try simp only [rowOf_set, set_kind, set_req, set_done, k1, k2, k3, Value.cells, Act.eval, k7, k8, k9, kA, Option.getD_some] at hm)) | (refine wlSM (by rfl) hm (by rfl) (by with_reducible first | exact at0 | exact at1 | exact at2 | exact at3) (by rfl) (by first | rfl | exact idV_eq _ | exact peerV_eq _ _ | exact letV_eq _) (by first | exact peerC_one _ _ | exact idC_one _) (by first | (rw [peerC_size]; exact sizePeer) | (rw [idC_size]; exact sizeID)) (by simp only [rowOf_size, idC_size, peerC_size, letC_size]; decide) (by first | exact mid_from _ _ _ | exact mid_peer _ _ _ | exact mid_id _ _) ?_; clear hm; intro w1 hm; simp only [k2, k3] at hm) | (refine wlSC (hm := hm) (hi := by first | exact sizeInt | exact sizeU64 | exact sizeBool | exact sizeIntS | exact sizePeerS | exact sizeStr | exact sizeRdP | exact sizeErr) (ho := by first | decide | (simp only [rowOf_size, idC_size, peerC_size, letC_size]; omega) | (simp; done)) (h := ?_); clear hm; intro w1 hm; (try simp only [rowOf_set, set_kind, set_req, set_done, k1, k2, k3, Value.cells, Act.eval, k7, k8, k9, kA, Option.getD_some] at hm)) | (refine wlA (hz := by first | exact zeroPeer | exact zeroID | exact zeroLetter | exact zeroRd | exact zeroErr) (hm := hm) (h := ?_); clear hm; intro b1 w1 hm; (try simp only [rowOf_set, set_kind, set_req, set_done, k1, k2, k3, Value.cells, Act.eval, k7, k8, k9, kA, Option.getD_some] at hm)) | (refine wl_box (by rfl) rfl (by first | exact peerV_cells _ _ | exact letV_cells _ | exact idV_cells _ | rfl) hm ?_; clear hm; intro b1 w1 hm) | (refine wl_build (by rfl) (built_rdr _) rfl ?_; (try simp only [Act.put, k1, k2, k3]); (try simp only [← peerV_eq, ← idV_eq, ← letV_eq])) | (with_reducible first | refine stBs ?_ | refine stMs ?_ | refine stAp ?_ | refine stCo ?_)); (try simp only [k4, k5, k6, Act.put, k1, k2, k3]))
      go_cut [] from 8 to 97 (fun wx => ∃ (d : Nat) (s6 : ByteArray), opN f3 0 1 s5 = .ok (d, s6) ∧ Mem w [] ((rc, .cells #[.pointer (some ⟨rb, 0, none⟩)] 103 (0, 0)) :: (rb, .cells #[.string s6] 76 (0, 0)) :: (eb, .cells #[.int .i64 0] 27 (0, 0)) :: (lb, .cells (letC ⟨(k : Int), (a : Int), p, rq, id, ac, an, acap, (d == 1), -1, 0, none, 0, 0⟩) 63 (0, 0)) :: SA) wx)
      case first =>
        rcases f3 with _ | _
        · go_wp2_with ((first | refine wpList_skip (by rfl) ?_ | (refine wlL (hm := hm) (hu := by first | exact undPeer | exact undID | exact undLetter | exact undRd) (hi := by (try simp only [rowOf_size, idC_size, peerC_size, letC_size]); first | exact sizePeer | exact sizeID | exact sizeLetter | exact sizeRd) (h := ?_); (try simp only [Act.put, k1, k2, k3]); (try simp only [← peerV_eq, ← idV_eq, ← letV_eq])) | refine wlLC (hm := hm) (hv := by first | exact let0 _ | exact let1 _ | exact let22 _ | exact let43 _ | exact let44 _ | exact let45 _ | exact let66 _ | rfl) (hu := by first | exact undInt | exact undU64 | exact undBool | exact undIntS | exact undPeerS | exact undStr | exact undRdP | exact undErr) (h := ?_) | (refine yS (hm := hm) (hi := by (try simp only [rowOf_size, idC_size, peerC_size, letC_size]); first | exact sizePeer | exact sizeID | exact sizeLetter | exact sizeRd) (h := ?_); clear hm; intro w1 hm; (try simp only [rowOf_set, set_kind, set_req, set_done, k1, k2, k3, Value.cells, Act.eval, k7, k8, k9, kA, Option.getD_some] at hm)) | (refine wlSM (by rfl) hm (by rfl) (by with_reducible first | exact at0 | exact at1 | exact at2 | exact at3) (by rfl) (by first | rfl | exact idV_eq _ | exact peerV_eq _ _ | exact letV_eq _) (by first | exact peerC_one _ _ | exact idC_one _) (by first | (rw [peerC_size]; exact sizePeer) | (rw [idC_size]; exact sizeID)) (by simp only [rowOf_size, idC_size, peerC_size, letC_size]; decide) (by first | exact mid_from _ _ _ | exact mid_peer _ _ _ | exact mid_id _ _) ?_; clear hm; intro w1 hm; simp only [k2, k3] at hm) | (refine wlSC (hm := hm) (hi := by first | exact sizeInt | exact sizeU64 | exact sizeBool | exact sizeIntS | exact sizePeerS | exact sizeStr | exact sizeRdP | exact sizeErr) (ho := by first | decide | (simp only [rowOf_size, idC_size, peerC_size, letC_size]; omega) | (simp; done)) (h := ?_); clear hm; intro w1 hm; (try simp only [rowOf_set, set_kind, set_req, set_done, k1, k2, k3, Value.cells, Act.eval, k7, k8, k9, kA, Option.getD_some] at hm)) | (refine wlA (hz := by first | exact zeroPeer | exact zeroID | exact zeroLetter | exact zeroRd | exact zeroErr) (hm := hm) (h := ?_); clear hm; intro b1 w1 hm; (try simp only [rowOf_set, set_kind, set_req, set_done, k1, k2, k3, Value.cells, Act.eval, k7, k8, k9, kA, Option.getD_some] at hm)) | (refine wl_box (by rfl) rfl (by first | exact peerV_cells _ _ | exact letV_cells _ | exact idV_cells _ | rfl) hm ?_; clear hm; intro b1 w1 hm) | (refine wl_build (by rfl) (built_rdr _) rfl ?_; (try simp only [Act.put, k1, k2, k3]); (try simp only [← peerV_eq, ← idV_eq, ← letV_eq])) | (with_reducible first | refine stBs ?_ | refine stMs ?_ | refine stAp ?_ | refine stCo ?_)); (try simp only [k4, k5, k6, Act.put, k1, k2, k3]))
          go_meet
          exact ⟨0, s5, rfl, hm⟩
        · rcases h3 : gN 0 1 s5 with x | ⟨v, s6⟩
          · obtain ⟨r, hp⟩ := gN_x h3 rb (lo' := 0) (hi' := 1) rfl rfl
            have H3 := hid h3
            clear h3
            go_wp2_with ((first | refine wpList_skip (by rfl) ?_ | (refine wlL (hm := hm) (hu := by first | exact undPeer | exact undID | exact undLetter | exact undRd) (hi := by (try simp only [rowOf_size, idC_size, peerC_size, letC_size]); first | exact sizePeer | exact sizeID | exact sizeLetter | exact sizeRd) (h := ?_); (try simp only [Act.put, k1, k2, k3]); (try simp only [← peerV_eq, ← idV_eq, ← letV_eq])) | refine wlLC (hm := hm) (hv := by first | exact let0 _ | exact let1 _ | exact let22 _ | exact let43 _ | exact let44 _ | exact let45 _ | exact let66 _ | rfl) (hu := by first | exact undInt | exact undU64 | exact undBool | exact undIntS | exact undPeerS | exact undStr | exact undRdP | exact undErr) (h := ?_) | (refine yS (hm := hm) (hi := by (try simp only [rowOf_size, idC_size, peerC_size, letC_size]); first | exact sizePeer | exact sizeID | exact sizeLetter | exact sizeRd) (h := ?_); clear hm; intro w1 hm; (try simp only [rowOf_set, set_kind, set_req, set_done, k1, k2, k3, Value.cells, Act.eval, k7, k8, k9, kA, Option.getD_some] at hm)) | (refine wlSM (by rfl) hm (by rfl) (by with_reducible first | exact at0 | exact at1 | exact at2 | exact at3) (by rfl) (by first | rfl | exact idV_eq _ | exact peerV_eq _ _ | exact letV_eq _) (by first | exact peerC_one _ _ | exact idC_one _) (by first | (rw [peerC_size]; exact sizePeer) | (rw [idC_size]; exact sizeID)) (by simp only [rowOf_size, idC_size, peerC_size, letC_size]; decide) (by first | exact mid_from _ _ _ | exact mid_peer _ _ _ | exact mid_id _ _) ?_; clear hm; intro w1 hm; simp only [k2, k3] at hm) | (refine wlSC (hm := hm) (hi := by first | exact sizeInt | exact sizeU64 | exact sizeBool | exact sizeIntS | exact sizePeerS | exact sizeStr | exact sizeRdP | exact sizeErr) (ho := by first | decide | (simp only [rowOf_size, idC_size, peerC_size, letC_size]; omega) | (simp; done)) (h := ?_); clear hm; intro w1 hm; (try simp only [rowOf_set, set_kind, set_req, set_done, k1, k2, k3, Value.cells, Act.eval, k7, k8, k9, kA, Option.getD_some] at hm)) | (refine wlA (hz := by first | exact zeroPeer | exact zeroID | exact zeroLetter | exact zeroRd | exact zeroErr) (hm := hm) (h := ?_); clear hm; intro b1 w1 hm; (try simp only [rowOf_set, set_kind, set_req, set_done, k1, k2, k3, Value.cells, Act.eval, k7, k8, k9, kA, Option.getD_some] at hm)) | (refine wl_box (by rfl) rfl (by first | exact peerV_cells _ _ | exact letV_cells _ | exact idV_cells _ | rfl) hm ?_; clear hm; intro b1 w1 hm) | (refine wl_build (by rfl) (built_rdr _) rfl ?_; (try simp only [Act.put, k1, k2, k3]); (try simp only [← peerV_eq, ← idV_eq, ← letV_eq])) | (go_at_call 73; refine (hp _ (hm.heap (by with_reducible first | exact at0 | exact at1 | exact at2 | exact at3))).mono ?_; rintro e w1 ⟨rfl, hx⟩; replace hm := hm.callAt (by with_reducible first | exact at0 | exact at1 | exact at2 | exact at3) hx; clear hx; simp only [k2, k3] at hm) | (with_reducible first | refine stBs ?_ | refine stMs ?_ | refine stAp ?_ | refine stCo ?_)); (try simp only [k4, k5, k6, Act.put, k1, k2, k3]))
            refine get_pan ?_ hm (letC_size _) rfl rfl rfl rfl rfl
            rw [← HR.out]; unfold getA; simp only [HK.out, HF.out, ok_bind, F0.out, E3.out, F1.out, E4.out, F2.out, E5.out, F3.out, opN_true, H3.out]; rfl
          · have hp := gN_c h3 rb (lo' := 0) (hi' := 1) rfl rfl
            have H3 := hid h3
            obtain ⟨vb, hvb⟩ : ∃ b, ((v : Int) == 1) = b := ⟨_, rfl⟩
            have HVB := hid hvb
            clear h3
            go_wp2_with ((first | refine wpList_skip (by rfl) ?_ | (refine wlL (hm := hm) (hu := by first | exact undPeer | exact undID | exact undLetter | exact undRd) (hi := by (try simp only [rowOf_size, idC_size, peerC_size, letC_size]); first | exact sizePeer | exact sizeID | exact sizeLetter | exact sizeRd) (h := ?_); (try simp only [Act.put, k1, k2, k3]); (try simp only [← peerV_eq, ← idV_eq, ← letV_eq])) | refine wlLC (hm := hm) (hv := by first | exact let0 _ | exact let1 _ | exact let22 _ | exact let43 _ | exact let44 _ | exact let45 _ | exact let66 _ | rfl) (hu := by first | exact undInt | exact undU64 | exact undBool | exact undIntS | exact undPeerS | exact undStr | exact undRdP | exact undErr) (h := ?_) | (refine yS (hm := hm) (hi := by (try simp only [rowOf_size, idC_size, peerC_size, letC_size]); first | exact sizePeer | exact sizeID | exact sizeLetter | exact sizeRd) (h := ?_); clear hm; intro w1 hm; (try simp only [rowOf_set, set_kind, set_req, set_done, k1, k2, k3, Value.cells, Act.eval, k7, k8, k9, kA, Option.getD_some] at hm)) | (refine wlSM (by rfl) hm (by rfl) (by with_reducible first | exact at0 | exact at1 | exact at2 | exact at3) (by rfl) (by first | rfl | exact idV_eq _ | exact peerV_eq _ _ | exact letV_eq _) (by first | exact peerC_one _ _ | exact idC_one _) (by first | (rw [peerC_size]; exact sizePeer) | (rw [idC_size]; exact sizeID)) (by simp only [rowOf_size, idC_size, peerC_size, letC_size]; decide) (by first | exact mid_from _ _ _ | exact mid_peer _ _ _ | exact mid_id _ _) ?_; clear hm; intro w1 hm; simp only [k2, k3] at hm) | (refine wlSC (hm := hm) (hi := by first | exact sizeInt | exact sizeU64 | exact sizeBool | exact sizeIntS | exact sizePeerS | exact sizeStr | exact sizeRdP | exact sizeErr) (ho := by first | decide | (simp only [rowOf_size, idC_size, peerC_size, letC_size]; omega) | (simp; done)) (h := ?_); clear hm; intro w1 hm; (try simp only [rowOf_set, set_kind, set_req, set_done, k1, k2, k3, Value.cells, Act.eval, k7, k8, k9, kA, Option.getD_some] at hm)) | (refine wlA (hz := by first | exact zeroPeer | exact zeroID | exact zeroLetter | exact zeroRd | exact zeroErr) (hm := hm) (h := ?_); clear hm; intro b1 w1 hm; (try simp only [rowOf_set, set_kind, set_req, set_done, k1, k2, k3, Value.cells, Act.eval, k7, k8, k9, kA, Option.getD_some] at hm)) | (refine wl_box (by rfl) rfl (by first | exact peerV_cells _ _ | exact letV_cells _ | exact idV_cells _ | rfl) hm ?_; clear hm; intro b1 w1 hm) | (refine wl_build (by rfl) (built_rdr _) rfl ?_; (try simp only [Act.put, k1, k2, k3]); (try simp only [← peerV_eq, ← idV_eq, ← letV_eq])) | (go_at_call 73; refine (hp _ (hm.heap (by with_reducible first | exact at0 | exact at1 | exact at2 | exact at3))).mono ?_; rintro e w1 ⟨rfl, hx⟩; replace hm := hm.callAt (by with_reducible first | exact at0 | exact at1 | exact at2 | exact at3) hx; clear hx; simp only [k2, k3] at hm) | (with_reducible first | refine stBs ?_ | refine stMs ?_ | refine stAp ?_ | refine stCo ?_)); (try simp only [k4, k5, k6, Act.put, k1, k2, k3]))
            go_meet
            refine ⟨v, s6, H3.out, ?_⟩
            rw [beq_one HVB.out]
            exact hm
      clear hm g3
      obtain ⟨d, s6, h3, hm⟩ := hcut
      have E6 := hid h3
      clear h3
      go_upto_if 64 with ((first | refine wpList_skip (by rfl) ?_ | (refine wlL (hm := hm) (hu := by first | exact undPeer | exact undID | exact undLetter | exact undRd) (hi := by (try simp only [rowOf_size, idC_size, peerC_size, letC_size]); first | exact sizePeer | exact sizeID | exact sizeLetter | exact sizeRd) (h := ?_); (try simp only [Act.put, k1, k2, k3]); (try simp only [← peerV_eq, ← idV_eq, ← letV_eq])) | refine wlLC (hm := hm) (hv := by first | exact let0 _ | exact let1 _ | exact let22 _ | exact let43 _ | exact let44 _ | exact let45 _ | exact let66 _ | rfl) (hu := by first | exact undInt | exact undU64 | exact undBool | exact undIntS | exact undPeerS | exact undStr | exact undRdP | exact undErr) (h := ?_) | (refine yS (hm := hm) (hi := by (try simp only [rowOf_size, idC_size, peerC_size, letC_size]); first | exact sizePeer | exact sizeID | exact sizeLetter | exact sizeRd) (h := ?_); clear hm; intro w1 hm; (try simp only [rowOf_set, set_kind, set_req, set_done, k1, k2, k3, Value.cells, Act.eval, k7, k8, k9, kA, Option.getD_some] at hm)) | (refine wlSM (by rfl) hm (by rfl) (by with_reducible first | exact at0 | exact at1 | exact at2 | exact at3) (by rfl) (by first | rfl | exact idV_eq _ | exact peerV_eq _ _ | exact letV_eq _) (by first | exact peerC_one _ _ | exact idC_one _) (by first | (rw [peerC_size]; exact sizePeer) | (rw [idC_size]; exact sizeID)) (by simp only [rowOf_size, idC_size, peerC_size, letC_size]; decide) (by first | exact mid_from _ _ _ | exact mid_peer _ _ _ | exact mid_id _ _) ?_; clear hm; intro w1 hm; simp only [k2, k3] at hm) | (refine wlSC (hm := hm) (hi := by first | exact sizeInt | exact sizeU64 | exact sizeBool | exact sizeIntS | exact sizePeerS | exact sizeStr | exact sizeRdP | exact sizeErr) (ho := by first | decide | (simp only [rowOf_size, idC_size, peerC_size, letC_size]; omega) | (simp; done)) (h := ?_); clear hm; intro w1 hm; (try simp only [rowOf_set, set_kind, set_req, set_done, k1, k2, k3, Value.cells, Act.eval, k7, k8, k9, kA, Option.getD_some] at hm)) | (refine wlA (hz := by first | exact zeroPeer | exact zeroID | exact zeroLetter | exact zeroRd | exact zeroErr) (hm := hm) (h := ?_); clear hm; intro b1 w1 hm; (try simp only [rowOf_set, set_kind, set_req, set_done, k1, k2, k3, Value.cells, Act.eval, k7, k8, k9, kA, Option.getD_some] at hm)) | (refine wl_box (by rfl) rfl (by first | exact peerV_cells _ _ | exact letV_cells _ | exact idV_cells _ | rfl) hm ?_; clear hm; intro b1 w1 hm) | (refine wl_build (by rfl) (built_rdr _) rfl ?_; (try simp only [Act.put, k1, k2, k3]); (try simp only [← peerV_eq, ← idV_eq, ← letV_eq])) | (with_reducible first | refine stBs ?_ | refine stMs ?_ | refine stAp ?_ | refine stCo ?_)); (try simp only [k4, k5, k6, Act.put, k1, k2, k3]))
      go_cut [7] from 8 to 97 (fun s7 wx => s7 = .int .u64 (lst : Int) ∧ Mem w [] ((rc, .cells #[.pointer (some ⟨rb, 0, none⟩)] 103 (0, 0)) :: (rb, .cells #[.string s6] 76 (0, 0)) :: (eb, .cells #[.int .i64 0] 27 (0, 0)) :: (lb, .cells (letC ⟨(k : Int), (a : Int), p, rq, id, ac, an, acap, (d == 1), -1, 0, none, 0, 0⟩) 63 (0, 0)) :: SA) wx)
      case first =>
        rcases fk with _ | _
        · obtain rfl : lst = 0 := by rw [← HL.out]; exact least_no HGK.out
          go_wp2_with ((first | refine wpList_skip (by rfl) ?_ | (refine wlL (hm := hm) (hu := by first | exact undPeer | exact undID | exact undLetter | exact undRd) (hi := by (try simp only [rowOf_size, idC_size, peerC_size, letC_size]); first | exact sizePeer | exact sizeID | exact sizeLetter | exact sizeRd) (h := ?_); (try simp only [Act.put, k1, k2, k3]); (try simp only [← peerV_eq, ← idV_eq, ← letV_eq])) | refine wlLC (hm := hm) (hv := by first | exact let0 _ | exact let1 _ | exact let22 _ | exact let43 _ | exact let44 _ | exact let45 _ | exact let66 _ | rfl) (hu := by first | exact undInt | exact undU64 | exact undBool | exact undIntS | exact undPeerS | exact undStr | exact undRdP | exact undErr) (h := ?_) | (refine yS (hm := hm) (hi := by (try simp only [rowOf_size, idC_size, peerC_size, letC_size]); first | exact sizePeer | exact sizeID | exact sizeLetter | exact sizeRd) (h := ?_); clear hm; intro w1 hm; (try simp only [rowOf_set, set_kind, set_req, set_done, k1, k2, k3, Value.cells, Act.eval, k7, k8, k9, kA, Option.getD_some] at hm)) | (refine wlSM (by rfl) hm (by rfl) (by with_reducible first | exact at0 | exact at1 | exact at2 | exact at3) (by rfl) (by first | rfl | exact idV_eq _ | exact peerV_eq _ _ | exact letV_eq _) (by first | exact peerC_one _ _ | exact idC_one _) (by first | (rw [peerC_size]; exact sizePeer) | (rw [idC_size]; exact sizeID)) (by simp only [rowOf_size, idC_size, peerC_size, letC_size]; decide) (by first | exact mid_from _ _ _ | exact mid_peer _ _ _ | exact mid_id _ _) ?_; clear hm; intro w1 hm; simp only [k2, k3] at hm) | (refine wlSC (hm := hm) (hi := by first | exact sizeInt | exact sizeU64 | exact sizeBool | exact sizeIntS | exact sizePeerS | exact sizeStr | exact sizeRdP | exact sizeErr) (ho := by first | decide | (simp only [rowOf_size, idC_size, peerC_size, letC_size]; omega) | (simp; done)) (h := ?_); clear hm; intro w1 hm; (try simp only [rowOf_set, set_kind, set_req, set_done, k1, k2, k3, Value.cells, Act.eval, k7, k8, k9, kA, Option.getD_some] at hm)) | (refine wlA (hz := by first | exact zeroPeer | exact zeroID | exact zeroLetter | exact zeroRd | exact zeroErr) (hm := hm) (h := ?_); clear hm; intro b1 w1 hm; (try simp only [rowOf_set, set_kind, set_req, set_done, k1, k2, k3, Value.cells, Act.eval, k7, k8, k9, kA, Option.getD_some] at hm)) | (refine wl_box (by rfl) rfl (by first | exact peerV_cells _ _ | exact letV_cells _ | exact idV_cells _ | rfl) hm ?_; clear hm; intro b1 w1 hm) | (refine wl_build (by rfl) (built_rdr _) rfl ?_; (try simp only [Act.put, k1, k2, k3]); (try simp only [← peerV_eq, ← idV_eq, ← letV_eq])) | (with_reducible first | refine stBs ?_ | refine stMs ?_ | refine stAp ?_ | refine stCo ?_)); (try simp only [k4, k5, k6, Act.put, k1, k2, k3]))
          go_meet
          exact ⟨rfl, hm⟩
        · obtain rfl : lst = 1 := by rw [← HL.out]; exact least_yes HGK.out
          go_wp2_with ((first | refine wpList_skip (by rfl) ?_ | (refine wlL (hm := hm) (hu := by first | exact undPeer | exact undID | exact undLetter | exact undRd) (hi := by (try simp only [rowOf_size, idC_size, peerC_size, letC_size]); first | exact sizePeer | exact sizeID | exact sizeLetter | exact sizeRd) (h := ?_); (try simp only [Act.put, k1, k2, k3]); (try simp only [← peerV_eq, ← idV_eq, ← letV_eq])) | refine wlLC (hm := hm) (hv := by first | exact let0 _ | exact let1 _ | exact let22 _ | exact let43 _ | exact let44 _ | exact let45 _ | exact let66 _ | rfl) (hu := by first | exact undInt | exact undU64 | exact undBool | exact undIntS | exact undPeerS | exact undStr | exact undRdP | exact undErr) (h := ?_) | (refine yS (hm := hm) (hi := by (try simp only [rowOf_size, idC_size, peerC_size, letC_size]); first | exact sizePeer | exact sizeID | exact sizeLetter | exact sizeRd) (h := ?_); clear hm; intro w1 hm; (try simp only [rowOf_set, set_kind, set_req, set_done, k1, k2, k3, Value.cells, Act.eval, k7, k8, k9, kA, Option.getD_some] at hm)) | (refine wlSM (by rfl) hm (by rfl) (by with_reducible first | exact at0 | exact at1 | exact at2 | exact at3) (by rfl) (by first | rfl | exact idV_eq _ | exact peerV_eq _ _ | exact letV_eq _) (by first | exact peerC_one _ _ | exact idC_one _) (by first | (rw [peerC_size]; exact sizePeer) | (rw [idC_size]; exact sizeID)) (by simp only [rowOf_size, idC_size, peerC_size, letC_size]; decide) (by first | exact mid_from _ _ _ | exact mid_peer _ _ _ | exact mid_id _ _) ?_; clear hm; intro w1 hm; simp only [k2, k3] at hm) | (refine wlSC (hm := hm) (hi := by first | exact sizeInt | exact sizeU64 | exact sizeBool | exact sizeIntS | exact sizePeerS | exact sizeStr | exact sizeRdP | exact sizeErr) (ho := by first | decide | (simp only [rowOf_size, idC_size, peerC_size, letC_size]; omega) | (simp; done)) (h := ?_); clear hm; intro w1 hm; (try simp only [rowOf_set, set_kind, set_req, set_done, k1, k2, k3, Value.cells, Act.eval, k7, k8, k9, kA, Option.getD_some] at hm)) | (refine wlA (hz := by first | exact zeroPeer | exact zeroID | exact zeroLetter | exact zeroRd | exact zeroErr) (hm := hm) (h := ?_); clear hm; intro b1 w1 hm; (try simp only [rowOf_set, set_kind, set_req, set_done, k1, k2, k3, Value.cells, Act.eval, k7, k8, k9, kA, Option.getD_some] at hm)) | (refine wl_box (by rfl) rfl (by first | exact peerV_cells _ _ | exact letV_cells _ | exact idV_cells _ | rfl) hm ?_; clear hm; intro b1 w1 hm) | (refine wl_build (by rfl) (built_rdr _) rfl ?_; (try simp only [Act.put, k1, k2, k3]); (try simp only [← peerV_eq, ← idV_eq, ← letV_eq])) | (with_reducible first | refine stBs ?_ | refine stMs ?_ | refine stAp ?_ | refine stCo ?_)); (try simp only [k4, k5, k6, Act.put, k1, k2, k3]))
          go_meet
          exact ⟨rfl, hm⟩
      clear hm gk
      obtain ⟨rfl, hm⟩ := hcut
      go_upto_region 20 with ((first | refine wpList_skip (by rfl) ?_ | (refine wlL (hm := hm) (hu := by first | exact undPeer | exact undID | exact undLetter | exact undRd) (hi := by (try simp only [rowOf_size, idC_size, peerC_size, letC_size]); first | exact sizePeer | exact sizeID | exact sizeLetter | exact sizeRd) (h := ?_); (try simp only [Act.put, k1, k2, k3]); (try simp only [← peerV_eq, ← idV_eq, ← letV_eq])) | refine wlLC (hm := hm) (hv := by first | exact let0 _ | exact let1 _ | exact let22 _ | exact let43 _ | exact let44 _ | exact let45 _ | exact let66 _ | rfl) (hu := by first | exact undInt | exact undU64 | exact undBool | exact undIntS | exact undPeerS | exact undStr | exact undRdP | exact undErr) (h := ?_) | (refine yS (hm := hm) (hi := by (try simp only [rowOf_size, idC_size, peerC_size, letC_size]); first | exact sizePeer | exact sizeID | exact sizeLetter | exact sizeRd) (h := ?_); clear hm; intro w1 hm; (try simp only [rowOf_set, set_kind, set_req, set_done, k1, k2, k3, Value.cells, Act.eval, k7, k8, k9, kA, Option.getD_some] at hm)) | (refine wlSM (by rfl) hm (by rfl) (by with_reducible first | exact at0 | exact at1 | exact at2 | exact at3) (by rfl) (by first | rfl | exact idV_eq _ | exact peerV_eq _ _ | exact letV_eq _) (by first | exact peerC_one _ _ | exact idC_one _) (by first | (rw [peerC_size]; exact sizePeer) | (rw [idC_size]; exact sizeID)) (by simp only [rowOf_size, idC_size, peerC_size, letC_size]; decide) (by first | exact mid_from _ _ _ | exact mid_peer _ _ _ | exact mid_id _ _) ?_; clear hm; intro w1 hm; simp only [k2, k3] at hm) | (refine wlSC (hm := hm) (hi := by first | exact sizeInt | exact sizeU64 | exact sizeBool | exact sizeIntS | exact sizePeerS | exact sizeStr | exact sizeRdP | exact sizeErr) (ho := by first | decide | (simp only [rowOf_size, idC_size, peerC_size, letC_size]; omega) | (simp; done)) (h := ?_); clear hm; intro w1 hm; (try simp only [rowOf_set, set_kind, set_req, set_done, k1, k2, k3, Value.cells, Act.eval, k7, k8, k9, kA, Option.getD_some] at hm)) | (refine wlA (hz := by first | exact zeroPeer | exact zeroID | exact zeroLetter | exact zeroRd | exact zeroErr) (hm := hm) (h := ?_); clear hm; intro b1 w1 hm; (try simp only [rowOf_set, set_kind, set_req, set_done, k1, k2, k3, Value.cells, Act.eval, k7, k8, k9, kA, Option.getD_some] at hm)) | (refine wl_box (by rfl) rfl (by first | exact peerV_cells _ _ | exact letV_cells _ | exact idV_cells _ | rfl) hm ?_; clear hm; intro b1 w1 hm) | (refine wl_build (by rfl) (built_rdr _) rfl ?_; (try simp only [Act.put, k1, k2, k3]); (try simp only [← peerV_eq, ← idV_eq, ← letV_eq])) | (with_reducible first | refine stBs ?_ | refine stMs ?_ | refine stAp ?_ | refine stCo ?_)); (try simp only [k4, k5, k6, Act.put, k1, k2, k3]))
      go_cut [73] from 8 to 97 (fun s73 wx => ∃ (y : Nat) (s7 : ByteArray), opN f4 lst 1 s6 = .ok (y, s7) ∧ s73 = .bool (y == 1) ∧ Mem w [] ((rc, .cells #[.pointer (some ⟨rb, 0, none⟩)] 103 (0, 0)) :: (rb, .cells #[.string s7] 76 (0, 0)) :: (eb, .cells #[.int .i64 0] 27 (0, 0)) :: (lb, .cells (letC ⟨(k : Int), (a : Int), p, rq, id, ac, an, acap, (d == 1), -1, 0, none, 0, 0⟩) 63 (0, 0)) :: SA) wx)
      case first =>
        rcases f4 with _ | _
        · go_wp2_with ((first | refine wpList_skip (by rfl) ?_ | (refine wlL (hm := hm) (hu := by first | exact undPeer | exact undID | exact undLetter | exact undRd) (hi := by (try simp only [rowOf_size, idC_size, peerC_size, letC_size]); first | exact sizePeer | exact sizeID | exact sizeLetter | exact sizeRd) (h := ?_); (try simp only [Act.put, k1, k2, k3]); (try simp only [← peerV_eq, ← idV_eq, ← letV_eq])) | refine wlLC (hm := hm) (hv := by first | exact let0 _ | exact let1 _ | exact let22 _ | exact let43 _ | exact let44 _ | exact let45 _ | exact let66 _ | rfl) (hu := by first | exact undInt | exact undU64 | exact undBool | exact undIntS | exact undPeerS | exact undStr | exact undRdP | exact undErr) (h := ?_) | (refine yS (hm := hm) (hi := by (try simp only [rowOf_size, idC_size, peerC_size, letC_size]); first | exact sizePeer | exact sizeID | exact sizeLetter | exact sizeRd) (h := ?_); clear hm; intro w1 hm; (try simp only [rowOf_set, set_kind, set_req, set_done, k1, k2, k3, Value.cells, Act.eval, k7, k8, k9, kA, Option.getD_some] at hm)) | (refine wlSM (by rfl) hm (by rfl) (by with_reducible first | exact at0 | exact at1 | exact at2 | exact at3) (by rfl) (by first | rfl | exact idV_eq _ | exact peerV_eq _ _ | exact letV_eq _) (by first | exact peerC_one _ _ | exact idC_one _) (by first | (rw [peerC_size]; exact sizePeer) | (rw [idC_size]; exact sizeID)) (by simp only [rowOf_size, idC_size, peerC_size, letC_size]; decide) (by first | exact mid_from _ _ _ | exact mid_peer _ _ _ | exact mid_id _ _) ?_; clear hm; intro w1 hm; simp only [k2, k3] at hm) | (refine wlSC (hm := hm) (hi := by first | exact sizeInt | exact sizeU64 | exact sizeBool | exact sizeIntS | exact sizePeerS | exact sizeStr | exact sizeRdP | exact sizeErr) (ho := by first | decide | (simp only [rowOf_size, idC_size, peerC_size, letC_size]; omega) | (simp; done)) (h := ?_); clear hm; intro w1 hm; (try simp only [rowOf_set, set_kind, set_req, set_done, k1, k2, k3, Value.cells, Act.eval, k7, k8, k9, kA, Option.getD_some] at hm)) | (refine wlA (hz := by first | exact zeroPeer | exact zeroID | exact zeroLetter | exact zeroRd | exact zeroErr) (hm := hm) (h := ?_); clear hm; intro b1 w1 hm; (try simp only [rowOf_set, set_kind, set_req, set_done, k1, k2, k3, Value.cells, Act.eval, k7, k8, k9, kA, Option.getD_some] at hm)) | (refine wl_box (by rfl) rfl (by first | exact peerV_cells _ _ | exact letV_cells _ | exact idV_cells _ | rfl) hm ?_; clear hm; intro b1 w1 hm) | (refine wl_build (by rfl) (built_rdr _) rfl ?_; (try simp only [Act.put, k1, k2, k3]); (try simp only [← peerV_eq, ← idV_eq, ← letV_eq])) | (with_reducible first | refine stBs ?_ | refine stMs ?_ | refine stAp ?_ | refine stCo ?_)); (try simp only [k4, k5, k6, Act.put, k1, k2, k3]))
          go_meet
          exact ⟨0, s6, rfl, rfl, hm⟩
        · rcases h3 : gN lst 1 s6 with x | ⟨v, s7⟩
          · obtain ⟨r, hp⟩ := gN_x h3 rb (lo' := (lst : Int)) (hi' := 1) rfl rfl
            have H3 := hid h3
            clear h3
            go_wp2_with ((first | refine wpList_skip (by rfl) ?_ | (refine wlL (hm := hm) (hu := by first | exact undPeer | exact undID | exact undLetter | exact undRd) (hi := by (try simp only [rowOf_size, idC_size, peerC_size, letC_size]); first | exact sizePeer | exact sizeID | exact sizeLetter | exact sizeRd) (h := ?_); (try simp only [Act.put, k1, k2, k3]); (try simp only [← peerV_eq, ← idV_eq, ← letV_eq])) | refine wlLC (hm := hm) (hv := by first | exact let0 _ | exact let1 _ | exact let22 _ | exact let43 _ | exact let44 _ | exact let45 _ | exact let66 _ | rfl) (hu := by first | exact undInt | exact undU64 | exact undBool | exact undIntS | exact undPeerS | exact undStr | exact undRdP | exact undErr) (h := ?_) | (refine yS (hm := hm) (hi := by (try simp only [rowOf_size, idC_size, peerC_size, letC_size]); first | exact sizePeer | exact sizeID | exact sizeLetter | exact sizeRd) (h := ?_); clear hm; intro w1 hm; (try simp only [rowOf_set, set_kind, set_req, set_done, k1, k2, k3, Value.cells, Act.eval, k7, k8, k9, kA, Option.getD_some] at hm)) | (refine wlSM (by rfl) hm (by rfl) (by with_reducible first | exact at0 | exact at1 | exact at2 | exact at3) (by rfl) (by first | rfl | exact idV_eq _ | exact peerV_eq _ _ | exact letV_eq _) (by first | exact peerC_one _ _ | exact idC_one _) (by first | (rw [peerC_size]; exact sizePeer) | (rw [idC_size]; exact sizeID)) (by simp only [rowOf_size, idC_size, peerC_size, letC_size]; decide) (by first | exact mid_from _ _ _ | exact mid_peer _ _ _ | exact mid_id _ _) ?_; clear hm; intro w1 hm; simp only [k2, k3] at hm) | (refine wlSC (hm := hm) (hi := by first | exact sizeInt | exact sizeU64 | exact sizeBool | exact sizeIntS | exact sizePeerS | exact sizeStr | exact sizeRdP | exact sizeErr) (ho := by first | decide | (simp only [rowOf_size, idC_size, peerC_size, letC_size]; omega) | (simp; done)) (h := ?_); clear hm; intro w1 hm; (try simp only [rowOf_set, set_kind, set_req, set_done, k1, k2, k3, Value.cells, Act.eval, k7, k8, k9, kA, Option.getD_some] at hm)) | (refine wlA (hz := by first | exact zeroPeer | exact zeroID | exact zeroLetter | exact zeroRd | exact zeroErr) (hm := hm) (h := ?_); clear hm; intro b1 w1 hm; (try simp only [rowOf_set, set_kind, set_req, set_done, k1, k2, k3, Value.cells, Act.eval, k7, k8, k9, kA, Option.getD_some] at hm)) | (refine wl_box (by rfl) rfl (by first | exact peerV_cells _ _ | exact letV_cells _ | exact idV_cells _ | rfl) hm ?_; clear hm; intro b1 w1 hm) | (refine wl_build (by rfl) (built_rdr _) rfl ?_; (try simp only [Act.put, k1, k2, k3]); (try simp only [← peerV_eq, ← idV_eq, ← letV_eq])) | (go_at_call 73; refine (hp _ (hm.heap (by with_reducible first | exact at0 | exact at1 | exact at2 | exact at3))).mono ?_; rintro e w1 ⟨rfl, hx⟩; replace hm := hm.callAt (by with_reducible first | exact at0 | exact at1 | exact at2 | exact at3) hx; clear hx; simp only [k2, k3] at hm) | (with_reducible first | refine stBs ?_ | refine stMs ?_ | refine stAp ?_ | refine stCo ?_)); (try simp only [k4, k5, k6, Act.put, k1, k2, k3]))
            refine get_pan ?_ hm (letC_size _) rfl rfl rfl rfl rfl
            rw [← HR.out]; unfold getA; simp only [HK.out, HF.out, ok_bind, F0.out, E3.out, F1.out, E4.out, F2.out, E5.out, F3.out, E6.out, F4.out, HL.out, opN_true, H3.out]; rfl
          · have hp := gN_c h3 rb (lo' := (lst : Int)) (hi' := 1) rfl rfl
            have H3 := hid h3
            obtain ⟨vb, hvb⟩ : ∃ b, ((v : Int) == 1) = b := ⟨_, rfl⟩
            have HVB := hid hvb
            clear h3
            go_wp2_with ((first | refine wpList_skip (by rfl) ?_ | (refine wlL (hm := hm) (hu := by first | exact undPeer | exact undID | exact undLetter | exact undRd) (hi := by (try simp only [rowOf_size, idC_size, peerC_size, letC_size]); first | exact sizePeer | exact sizeID | exact sizeLetter | exact sizeRd) (h := ?_); (try simp only [Act.put, k1, k2, k3]); (try simp only [← peerV_eq, ← idV_eq, ← letV_eq])) | refine wlLC (hm := hm) (hv := by first | exact let0 _ | exact let1 _ | exact let22 _ | exact let43 _ | exact let44 _ | exact let45 _ | exact let66 _ | rfl) (hu := by first | exact undInt | exact undU64 | exact undBool | exact undIntS | exact undPeerS | exact undStr | exact undRdP | exact undErr) (h := ?_) | (refine yS (hm := hm) (hi := by (try simp only [rowOf_size, idC_size, peerC_size, letC_size]); first | exact sizePeer | exact sizeID | exact sizeLetter | exact sizeRd) (h := ?_); clear hm; intro w1 hm; (try simp only [rowOf_set, set_kind, set_req, set_done, k1, k2, k3, Value.cells, Act.eval, k7, k8, k9, kA, Option.getD_some] at hm)) | (refine wlSM (by rfl) hm (by rfl) (by with_reducible first | exact at0 | exact at1 | exact at2 | exact at3) (by rfl) (by first | rfl | exact idV_eq _ | exact peerV_eq _ _ | exact letV_eq _) (by first | exact peerC_one _ _ | exact idC_one _) (by first | (rw [peerC_size]; exact sizePeer) | (rw [idC_size]; exact sizeID)) (by simp only [rowOf_size, idC_size, peerC_size, letC_size]; decide) (by first | exact mid_from _ _ _ | exact mid_peer _ _ _ | exact mid_id _ _) ?_; clear hm; intro w1 hm; simp only [k2, k3] at hm) | (refine wlSC (hm := hm) (hi := by first | exact sizeInt | exact sizeU64 | exact sizeBool | exact sizeIntS | exact sizePeerS | exact sizeStr | exact sizeRdP | exact sizeErr) (ho := by first | decide | (simp only [rowOf_size, idC_size, peerC_size, letC_size]; omega) | (simp; done)) (h := ?_); clear hm; intro w1 hm; (try simp only [rowOf_set, set_kind, set_req, set_done, k1, k2, k3, Value.cells, Act.eval, k7, k8, k9, kA, Option.getD_some] at hm)) | (refine wlA (hz := by first | exact zeroPeer | exact zeroID | exact zeroLetter | exact zeroRd | exact zeroErr) (hm := hm) (h := ?_); clear hm; intro b1 w1 hm; (try simp only [rowOf_set, set_kind, set_req, set_done, k1, k2, k3, Value.cells, Act.eval, k7, k8, k9, kA, Option.getD_some] at hm)) | (refine wl_box (by rfl) rfl (by first | exact peerV_cells _ _ | exact letV_cells _ | exact idV_cells _ | rfl) hm ?_; clear hm; intro b1 w1 hm) | (refine wl_build (by rfl) (built_rdr _) rfl ?_; (try simp only [Act.put, k1, k2, k3]); (try simp only [← peerV_eq, ← idV_eq, ← letV_eq])) | (go_at_call 73; refine (hp _ (hm.heap (by with_reducible first | exact at0 | exact at1 | exact at2 | exact at3))).mono ?_; rintro e w1 ⟨rfl, hx⟩; replace hm := hm.callAt (by with_reducible first | exact at0 | exact at1 | exact at2 | exact at3) hx; clear hx; simp only [k2, k3] at hm) | (with_reducible first | refine stBs ?_ | refine stMs ?_ | refine stAp ?_ | refine stCo ?_)); (try simp only [k4, k5, k6, Act.put, k1, k2, k3]))
            go_meet
            exact ⟨v, s7, H3.out, by rw [beq_one HVB.out], hm⟩
      clear hm g4
      obtain ⟨y, s7, h3, rfl, hm⟩ := hcut
      have E7 := hid h3
      clear h3
      obtain ⟨yb, hyb⟩ : ∃ b, (y == 1) = b := ⟨_, rfl⟩
      have EY := hid hyb
      rw [hyb]
      clear hyb
      go_upto_if 73 with ((first | refine wpList_skip (by rfl) ?_ | (refine wlL (hm := hm) (hu := by first | exact undPeer | exact undID | exact undLetter | exact undRd) (hi := by (try simp only [rowOf_size, idC_size, peerC_size, letC_size]); first | exact sizePeer | exact sizeID | exact sizeLetter | exact sizeRd) (h := ?_); (try simp only [Act.put, k1, k2, k3]); (try simp only [← peerV_eq, ← idV_eq, ← letV_eq])) | refine wlLC (hm := hm) (hv := by first | exact let0 _ | exact let1 _ | exact let22 _ | exact let43 _ | exact let44 _ | exact let45 _ | exact let66 _ | rfl) (hu := by first | exact undInt | exact undU64 | exact undBool | exact undIntS | exact undPeerS | exact undStr | exact undRdP | exact undErr) (h := ?_) | (refine yS (hm := hm) (hi := by (try simp only [rowOf_size, idC_size, peerC_size, letC_size]); first | exact sizePeer | exact sizeID | exact sizeLetter | exact sizeRd) (h := ?_); clear hm; intro w1 hm; (try simp only [rowOf_set, set_kind, set_req, set_done, k1, k2, k3, Value.cells, Act.eval, k7, k8, k9, kA, Option.getD_some] at hm)) | (refine wlSM (by rfl) hm (by rfl) (by with_reducible first | exact at0 | exact at1 | exact at2 | exact at3) (by rfl) (by first | rfl | exact idV_eq _ | exact peerV_eq _ _ | exact letV_eq _) (by first | exact peerC_one _ _ | exact idC_one _) (by first | (rw [peerC_size]; exact sizePeer) | (rw [idC_size]; exact sizeID)) (by simp only [rowOf_size, idC_size, peerC_size, letC_size]; decide) (by first | exact mid_from _ _ _ | exact mid_peer _ _ _ | exact mid_id _ _) ?_; clear hm; intro w1 hm; simp only [k2, k3] at hm) | (refine wlSC (hm := hm) (hi := by first | exact sizeInt | exact sizeU64 | exact sizeBool | exact sizeIntS | exact sizePeerS | exact sizeStr | exact sizeRdP | exact sizeErr) (ho := by first | decide | (simp only [rowOf_size, idC_size, peerC_size, letC_size]; omega) | (simp; done)) (h := ?_); clear hm; intro w1 hm; (try simp only [rowOf_set, set_kind, set_req, set_done, k1, k2, k3, Value.cells, Act.eval, k7, k8, k9, kA, Option.getD_some] at hm)) | (refine wlA (hz := by first | exact zeroPeer | exact zeroID | exact zeroLetter | exact zeroRd | exact zeroErr) (hm := hm) (h := ?_); clear hm; intro b1 w1 hm; (try simp only [rowOf_set, set_kind, set_req, set_done, k1, k2, k3, Value.cells, Act.eval, k7, k8, k9, kA, Option.getD_some] at hm)) | (refine wl_box (by rfl) rfl (by first | exact peerV_cells _ _ | exact letV_cells _ | exact idV_cells _ | rfl) hm ?_; clear hm; intro b1 w1 hm) | (refine wl_build (by rfl) (built_rdr _) rfl ?_; (try simp only [Act.put, k1, k2, k3]); (try simp only [← peerV_eq, ← idV_eq, ← letV_eq])) | (with_reducible first | refine stBs ?_ | refine stMs ?_ | refine stAp ?_ | refine stCo ?_)); (try simp only [k4, k5, k6, Act.put, k1, k2, k3]))
      go_cut [] from 8 to 97 (fun wx => ∃ (q : Int × Nat) (s8 : ByteArray), opP yb s7 = .ok (q, s8) ∧ Mem w [] ((rc, .cells #[.pointer (some ⟨rb, 0, none⟩)] 103 (0, 0)) :: (rb, .cells #[.string s8] 76 (0, 0)) :: (eb, .cells #[.int .i64 0] 27 (0, 0)) :: (lb, .cells (letC ⟨(k : Int), (a : Int), p, rq, id, ac, an, acap, (d == 1), q.1, q.2, none, 0, 0⟩) 63 (0, 0)) :: SA) wx)
      case first =>
        rcases yb with _ | _
        · go_wp2_with ((first | refine wpList_skip (by rfl) ?_ | (refine wlL (hm := hm) (hu := by first | exact undPeer | exact undID | exact undLetter | exact undRd) (hi := by (try simp only [rowOf_size, idC_size, peerC_size, letC_size]); first | exact sizePeer | exact sizeID | exact sizeLetter | exact sizeRd) (h := ?_); (try simp only [Act.put, k1, k2, k3]); (try simp only [← peerV_eq, ← idV_eq, ← letV_eq])) | refine wlLC (hm := hm) (hv := by first | exact let0 _ | exact let1 _ | exact let22 _ | exact let43 _ | exact let44 _ | exact let45 _ | exact let66 _ | rfl) (hu := by first | exact undInt | exact undU64 | exact undBool | exact undIntS | exact undPeerS | exact undStr | exact undRdP | exact undErr) (h := ?_) | (refine yS (hm := hm) (hi := by (try simp only [rowOf_size, idC_size, peerC_size, letC_size]); first | exact sizePeer | exact sizeID | exact sizeLetter | exact sizeRd) (h := ?_); clear hm; intro w1 hm; (try simp only [rowOf_set, set_kind, set_req, set_done, k1, k2, k3, Value.cells, Act.eval, k7, k8, k9, kA, Option.getD_some] at hm)) | (refine wlSM (by rfl) hm (by rfl) (by with_reducible first | exact at0 | exact at1 | exact at2 | exact at3) (by rfl) (by first | rfl | exact idV_eq _ | exact peerV_eq _ _ | exact letV_eq _) (by first | exact peerC_one _ _ | exact idC_one _) (by first | (rw [peerC_size]; exact sizePeer) | (rw [idC_size]; exact sizeID)) (by simp only [rowOf_size, idC_size, peerC_size, letC_size]; decide) (by first | exact mid_from _ _ _ | exact mid_peer _ _ _ | exact mid_id _ _) ?_; clear hm; intro w1 hm; simp only [k2, k3] at hm) | (refine wlSC (hm := hm) (hi := by first | exact sizeInt | exact sizeU64 | exact sizeBool | exact sizeIntS | exact sizePeerS | exact sizeStr | exact sizeRdP | exact sizeErr) (ho := by first | decide | (simp only [rowOf_size, idC_size, peerC_size, letC_size]; omega) | (simp; done)) (h := ?_); clear hm; intro w1 hm; (try simp only [rowOf_set, set_kind, set_req, set_done, k1, k2, k3, Value.cells, Act.eval, k7, k8, k9, kA, Option.getD_some] at hm)) | (refine wlA (hz := by first | exact zeroPeer | exact zeroID | exact zeroLetter | exact zeroRd | exact zeroErr) (hm := hm) (h := ?_); clear hm; intro b1 w1 hm; (try simp only [rowOf_set, set_kind, set_req, set_done, k1, k2, k3, Value.cells, Act.eval, k7, k8, k9, kA, Option.getD_some] at hm)) | (refine wl_box (by rfl) rfl (by first | exact peerV_cells _ _ | exact letV_cells _ | exact idV_cells _ | rfl) hm ?_; clear hm; intro b1 w1 hm) | (refine wl_build (by rfl) (built_rdr _) rfl ?_; (try simp only [Act.put, k1, k2, k3]); (try simp only [← peerV_eq, ← idV_eq, ← letV_eq])) | (with_reducible first | refine stBs ?_ | refine stMs ?_ | refine stAp ?_ | refine stCo ?_)); (try simp only [k4, k5, k6, Act.put, k1, k2, k3]))
          go_meet
          exact ⟨(-1, 0), s7, rfl, hm⟩
        · rcases h3 : gP s7 with x | ⟨⟨va, vp⟩, s8⟩
          · obtain ⟨r, hp⟩ := gP_x h3 rb
            have H3 := hid h3
            clear h3
            go_wp2_with ((first | refine wpList_skip (by rfl) ?_ | (refine wlL (hm := hm) (hu := by first | exact undPeer | exact undID | exact undLetter | exact undRd) (hi := by (try simp only [rowOf_size, idC_size, peerC_size, letC_size]); first | exact sizePeer | exact sizeID | exact sizeLetter | exact sizeRd) (h := ?_); (try simp only [Act.put, k1, k2, k3]); (try simp only [← peerV_eq, ← idV_eq, ← letV_eq])) | refine wlLC (hm := hm) (hv := by first | exact let0 _ | exact let1 _ | exact let22 _ | exact let43 _ | exact let44 _ | exact let45 _ | exact let66 _ | rfl) (hu := by first | exact undInt | exact undU64 | exact undBool | exact undIntS | exact undPeerS | exact undStr | exact undRdP | exact undErr) (h := ?_) | (refine yS (hm := hm) (hi := by (try simp only [rowOf_size, idC_size, peerC_size, letC_size]); first | exact sizePeer | exact sizeID | exact sizeLetter | exact sizeRd) (h := ?_); clear hm; intro w1 hm; (try simp only [rowOf_set, set_kind, set_req, set_done, k1, k2, k3, Value.cells, Act.eval, k7, k8, k9, kA, Option.getD_some] at hm)) | (refine wlSM (by rfl) hm (by rfl) (by with_reducible first | exact at0 | exact at1 | exact at2 | exact at3) (by rfl) (by first | rfl | exact idV_eq _ | exact peerV_eq _ _ | exact letV_eq _) (by first | exact peerC_one _ _ | exact idC_one _) (by first | (rw [peerC_size]; exact sizePeer) | (rw [idC_size]; exact sizeID)) (by simp only [rowOf_size, idC_size, peerC_size, letC_size]; decide) (by first | exact mid_from _ _ _ | exact mid_peer _ _ _ | exact mid_id _ _) ?_; clear hm; intro w1 hm; simp only [k2, k3] at hm) | (refine wlSC (hm := hm) (hi := by first | exact sizeInt | exact sizeU64 | exact sizeBool | exact sizeIntS | exact sizePeerS | exact sizeStr | exact sizeRdP | exact sizeErr) (ho := by first | decide | (simp only [rowOf_size, idC_size, peerC_size, letC_size]; omega) | (simp; done)) (h := ?_); clear hm; intro w1 hm; (try simp only [rowOf_set, set_kind, set_req, set_done, k1, k2, k3, Value.cells, Act.eval, k7, k8, k9, kA, Option.getD_some] at hm)) | (refine wlA (hz := by first | exact zeroPeer | exact zeroID | exact zeroLetter | exact zeroRd | exact zeroErr) (hm := hm) (h := ?_); clear hm; intro b1 w1 hm; (try simp only [rowOf_set, set_kind, set_req, set_done, k1, k2, k3, Value.cells, Act.eval, k7, k8, k9, kA, Option.getD_some] at hm)) | (refine wl_box (by rfl) rfl (by first | exact peerV_cells _ _ | exact letV_cells _ | exact idV_cells _ | rfl) hm ?_; clear hm; intro b1 w1 hm) | (refine wl_build (by rfl) (built_rdr _) rfl ?_; (try simp only [Act.put, k1, k2, k3]); (try simp only [← peerV_eq, ← idV_eq, ← letV_eq])) | (go_at_call 74; refine (hp _ (hm.heap (by with_reducible first | exact at0 | exact at1 | exact at2 | exact at3))).mono ?_; rintro e w1 ⟨rfl, hx⟩; replace hm := hm.callAt (by with_reducible first | exact at0 | exact at1 | exact at2 | exact at3) hx; clear hx; simp only [k2, k3] at hm) | (go_at_call 62; refine (none_c _).mono ?_; rintro e w1 ⟨rfl, hx⟩; replace hm := hm.call hx; clear hx) | (go_at_call 58; refine (hpt _).mono ?_; rintro e w1 ⟨rfl, hx⟩; replace hm := hm.call hx; clear hx) | (with_reducible first | refine stBs ?_ | refine stMs ?_ | refine stAp ?_ | refine stCo ?_)); (try simp only [k4, k5, k6, Act.put, k1, k2, k3]))
            refine get_pan ?_ hm (letC_size _) rfl rfl rfl rfl rfl
            rw [← HR.out]; unfold getA; simp only [HK.out, HF.out, ok_bind, F0.out, E3.out, F1.out, E4.out, F2.out, E5.out, F3.out, E6.out, F4.out, HL.out, E7.out, EY.out, opP_true, H3.out]; rfl
          · have hp := gP_c h3 rb
            have H3 := hid h3
            clear h3
            go_wp2_with ((first | refine wpList_skip (by rfl) ?_ | (refine wlL (hm := hm) (hu := by first | exact undPeer | exact undID | exact undLetter | exact undRd) (hi := by (try simp only [rowOf_size, idC_size, peerC_size, letC_size]); first | exact sizePeer | exact sizeID | exact sizeLetter | exact sizeRd) (h := ?_); (try simp only [Act.put, k1, k2, k3]); (try simp only [← peerV_eq, ← idV_eq, ← letV_eq])) | refine wlLC (hm := hm) (hv := by first | exact let0 _ | exact let1 _ | exact let22 _ | exact let43 _ | exact let44 _ | exact let45 _ | exact let66 _ | rfl) (hu := by first | exact undInt | exact undU64 | exact undBool | exact undIntS | exact undPeerS | exact undStr | exact undRdP | exact undErr) (h := ?_) | (refine yS (hm := hm) (hi := by (try simp only [rowOf_size, idC_size, peerC_size, letC_size]); first | exact sizePeer | exact sizeID | exact sizeLetter | exact sizeRd) (h := ?_); clear hm; intro w1 hm; (try simp only [rowOf_set, set_kind, set_req, set_done, k1, k2, k3, Value.cells, Act.eval, k7, k8, k9, kA, Option.getD_some] at hm)) | (refine wlSM (by rfl) hm (by rfl) (by with_reducible first | exact at0 | exact at1 | exact at2 | exact at3) (by rfl) (by first | rfl | exact idV_eq _ | exact peerV_eq _ _ | exact letV_eq _) (by first | exact peerC_one _ _ | exact idC_one _) (by first | (rw [peerC_size]; exact sizePeer) | (rw [idC_size]; exact sizeID)) (by simp only [rowOf_size, idC_size, peerC_size, letC_size]; decide) (by first | exact mid_from _ _ _ | exact mid_peer _ _ _ | exact mid_id _ _) ?_; clear hm; intro w1 hm; simp only [k2, k3] at hm) | (refine wlSC (hm := hm) (hi := by first | exact sizeInt | exact sizeU64 | exact sizeBool | exact sizeIntS | exact sizePeerS | exact sizeStr | exact sizeRdP | exact sizeErr) (ho := by first | decide | (simp only [rowOf_size, idC_size, peerC_size, letC_size]; omega) | (simp; done)) (h := ?_); clear hm; intro w1 hm; (try simp only [rowOf_set, set_kind, set_req, set_done, k1, k2, k3, Value.cells, Act.eval, k7, k8, k9, kA, Option.getD_some] at hm)) | (refine wlA (hz := by first | exact zeroPeer | exact zeroID | exact zeroLetter | exact zeroRd | exact zeroErr) (hm := hm) (h := ?_); clear hm; intro b1 w1 hm; (try simp only [rowOf_set, set_kind, set_req, set_done, k1, k2, k3, Value.cells, Act.eval, k7, k8, k9, kA, Option.getD_some] at hm)) | (refine wl_box (by rfl) rfl (by first | exact peerV_cells _ _ | exact letV_cells _ | exact idV_cells _ | rfl) hm ?_; clear hm; intro b1 w1 hm) | (refine wl_build (by rfl) (built_rdr _) rfl ?_; (try simp only [Act.put, k1, k2, k3]); (try simp only [← peerV_eq, ← idV_eq, ← letV_eq])) | (go_at_call 74; refine (hp _ (hm.heap (by with_reducible first | exact at0 | exact at1 | exact at2 | exact at3))).mono ?_; rintro e w1 ⟨rfl, hx⟩; replace hm := hm.callAt (by with_reducible first | exact at0 | exact at1 | exact at2 | exact at3) hx; clear hx; simp only [k2, k3] at hm) | (go_at_call 62; refine (none_c _).mono ?_; rintro e w1 ⟨rfl, hx⟩; replace hm := hm.call hx; clear hx) | (go_at_call 58; refine (hpt _).mono ?_; rintro e w1 ⟨rfl, hx⟩; replace hm := hm.call hx; clear hx) | (with_reducible first | refine stBs ?_ | refine stMs ?_ | refine stAp ?_ | refine stCo ?_)); (try simp only [k4, k5, k6, Act.put, k1, k2, k3]))
            go_meet
            exact ⟨((va : Int), vp), s8, by simp only [opP_true, H3.out, ok_bind], hm⟩
      clear hm
      obtain ⟨q, s8, h3, hm⟩ := hcut
      have E8 := hid h3
      clear h3
      go_upto_if 79 with ((first | refine wpList_skip (by rfl) ?_ | (refine wlL (hm := hm) (hu := by first | exact undPeer | exact undID | exact undLetter | exact undRd) (hi := by (try simp only [rowOf_size, idC_size, peerC_size, letC_size]); first | exact sizePeer | exact sizeID | exact sizeLetter | exact sizeRd) (h := ?_); (try simp only [Act.put, k1, k2, k3]); (try simp only [← peerV_eq, ← idV_eq, ← letV_eq])) | refine wlLC (hm := hm) (hv := by first | exact let0 _ | exact let1 _ | exact let22 _ | exact let43 _ | exact let44 _ | exact let45 _ | exact let66 _ | rfl) (hu := by first | exact undInt | exact undU64 | exact undBool | exact undIntS | exact undPeerS | exact undStr | exact undRdP | exact undErr) (h := ?_) | (refine yS (hm := hm) (hi := by (try simp only [rowOf_size, idC_size, peerC_size, letC_size]); first | exact sizePeer | exact sizeID | exact sizeLetter | exact sizeRd) (h := ?_); clear hm; intro w1 hm; (try simp only [rowOf_set, set_kind, set_req, set_done, k1, k2, k3, Value.cells, Act.eval, k7, k8, k9, kA, Option.getD_some] at hm)) | (refine wlSM (by rfl) hm (by rfl) (by with_reducible first | exact at0 | exact at1 | exact at2 | exact at3) (by rfl) (by first | rfl | exact idV_eq _ | exact peerV_eq _ _ | exact letV_eq _) (by first | exact peerC_one _ _ | exact idC_one _) (by first | (rw [peerC_size]; exact sizePeer) | (rw [idC_size]; exact sizeID)) (by simp only [rowOf_size, idC_size, peerC_size, letC_size]; decide) (by first | exact mid_from _ _ _ | exact mid_peer _ _ _ | exact mid_id _ _) ?_; clear hm; intro w1 hm; simp only [k2, k3] at hm) | (refine wlSC (hm := hm) (hi := by first | exact sizeInt | exact sizeU64 | exact sizeBool | exact sizeIntS | exact sizePeerS | exact sizeStr | exact sizeRdP | exact sizeErr) (ho := by first | decide | (simp only [rowOf_size, idC_size, peerC_size, letC_size]; omega) | (simp; done)) (h := ?_); clear hm; intro w1 hm; (try simp only [rowOf_set, set_kind, set_req, set_done, k1, k2, k3, Value.cells, Act.eval, k7, k8, k9, kA, Option.getD_some] at hm)) | (refine wlA (hz := by first | exact zeroPeer | exact zeroID | exact zeroLetter | exact zeroRd | exact zeroErr) (hm := hm) (h := ?_); clear hm; intro b1 w1 hm; (try simp only [rowOf_set, set_kind, set_req, set_done, k1, k2, k3, Value.cells, Act.eval, k7, k8, k9, kA, Option.getD_some] at hm)) | (refine wl_box (by rfl) rfl (by first | exact peerV_cells _ _ | exact letV_cells _ | exact idV_cells _ | rfl) hm ?_; clear hm; intro b1 w1 hm) | (refine wl_build (by rfl) (built_rdr _) rfl ?_; (try simp only [Act.put, k1, k2, k3]); (try simp only [← peerV_eq, ← idV_eq, ← letV_eq])) | (with_reducible first | refine stBs ?_ | refine stMs ?_ | refine stAp ?_ | refine stCo ?_)); (try simp only [k4, k5, k6, Act.put, k1, k2, k3]))
      go_cut [] from 8 to 97 (fun wx => ∃ (av : List (Nat × Nat)) (s9 : ByteArray) (c : Option Addr) (n cap : Nat) (S : List (Nat × Obj)), opM gP f5 8 s8 = .ok (av, s9) ∧ RowSl 60 21 (.slice c n cap) (av.map peerR) S ∧ Mem w [] ((rc, .cells #[.pointer (some ⟨rb, 0, none⟩)] 103 (0, 0)) :: (rb, .cells #[.string s9] 76 (0, 0)) :: (eb, .cells #[.int .i64 0] 27 (0, 0)) :: (lb, .cells (letC ⟨(k : Int), (a : Int), p, rq, id, ac, an, acap, (d == 1), q.1, q.2, c, n, cap⟩) 63 (0, 0)) :: (SA ++ S)) wx)
      case first =>
        rcases f5 with _ | _
        · go_wp2_with ((first | refine wpList_skip (by rfl) ?_ | (refine wlL (hm := hm) (hu := by first | exact undPeer | exact undID | exact undLetter | exact undRd) (hi := by (try simp only [rowOf_size, idC_size, peerC_size, letC_size]); first | exact sizePeer | exact sizeID | exact sizeLetter | exact sizeRd) (h := ?_); (try simp only [Act.put, k1, k2, k3]); (try simp only [← peerV_eq, ← idV_eq, ← letV_eq])) | refine wlLC (hm := hm) (hv := by first | exact let0 _ | exact let1 _ | exact let22 _ | exact let43 _ | exact let44 _ | exact let45 _ | exact let66 _ | rfl) (hu := by first | exact undInt | exact undU64 | exact undBool | exact undIntS | exact undPeerS | exact undStr | exact undRdP | exact undErr) (h := ?_) | (refine yS (hm := hm) (hi := by (try simp only [rowOf_size, idC_size, peerC_size, letC_size]); first | exact sizePeer | exact sizeID | exact sizeLetter | exact sizeRd) (h := ?_); clear hm; intro w1 hm; (try simp only [rowOf_set, set_kind, set_req, set_done, k1, k2, k3, Value.cells, Act.eval, k7, k8, k9, kA, Option.getD_some] at hm)) | (refine wlSM (by rfl) hm (by rfl) (by with_reducible first | exact at0 | exact at1 | exact at2 | exact at3) (by rfl) (by first | rfl | exact idV_eq _ | exact peerV_eq _ _ | exact letV_eq _) (by first | exact peerC_one _ _ | exact idC_one _) (by first | (rw [peerC_size]; exact sizePeer) | (rw [idC_size]; exact sizeID)) (by simp only [rowOf_size, idC_size, peerC_size, letC_size]; decide) (by first | exact mid_from _ _ _ | exact mid_peer _ _ _ | exact mid_id _ _) ?_; clear hm; intro w1 hm; simp only [k2, k3] at hm) | (refine wlSC (hm := hm) (hi := by first | exact sizeInt | exact sizeU64 | exact sizeBool | exact sizeIntS | exact sizePeerS | exact sizeStr | exact sizeRdP | exact sizeErr) (ho := by first | decide | (simp only [rowOf_size, idC_size, peerC_size, letC_size]; omega) | (simp; done)) (h := ?_); clear hm; intro w1 hm; (try simp only [rowOf_set, set_kind, set_req, set_done, k1, k2, k3, Value.cells, Act.eval, k7, k8, k9, kA, Option.getD_some] at hm)) | (refine wlA (hz := by first | exact zeroPeer | exact zeroID | exact zeroLetter | exact zeroRd | exact zeroErr) (hm := hm) (h := ?_); clear hm; intro b1 w1 hm; (try simp only [rowOf_set, set_kind, set_req, set_done, k1, k2, k3, Value.cells, Act.eval, k7, k8, k9, kA, Option.getD_some] at hm)) | (refine wl_box (by rfl) rfl (by first | exact peerV_cells _ _ | exact letV_cells _ | exact idV_cells _ | rfl) hm ?_; clear hm; intro b1 w1 hm) | (refine wl_build (by rfl) (built_rdr _) rfl ?_; (try simp only [Act.put, k1, k2, k3]); (try simp only [← peerV_eq, ← idV_eq, ← letV_eq])) | (with_reducible first | refine stBs ?_ | refine stMs ?_ | refine stAp ?_ | refine stCo ?_)); (try simp only [k4, k5, k6, Act.put, k1, k2, k3]))
          go_meet
          exact ⟨[], s8, none, 0, 0, [], rfl, RowSl.nil _ _, by rw [List.append_nil]; exact hm⟩
        · rcases h3 : gN 0 8 s8 with x | ⟨n, s5⟩
          · obtain ⟨r, hp⟩ := gN_x h3 rb (lo' := 0) (hi' := 8) rfl rfl
            have H3 := hid h3
            clear h3
            go_wp2_with ((first | refine wpList_skip (by rfl) ?_ | (refine wlL (hm := hm) (hu := by first | exact undPeer | exact undID | exact undLetter | exact undRd) (hi := by (try simp only [rowOf_size, idC_size, peerC_size, letC_size]); first | exact sizePeer | exact sizeID | exact sizeLetter | exact sizeRd) (h := ?_); (try simp only [Act.put, k1, k2, k3]); (try simp only [← peerV_eq, ← idV_eq, ← letV_eq])) | refine wlLC (hm := hm) (hv := by first | exact let0 _ | exact let1 _ | exact let22 _ | exact let43 _ | exact let44 _ | exact let45 _ | exact let66 _ | rfl) (hu := by first | exact undInt | exact undU64 | exact undBool | exact undIntS | exact undPeerS | exact undStr | exact undRdP | exact undErr) (h := ?_) | (refine yS (hm := hm) (hi := by (try simp only [rowOf_size, idC_size, peerC_size, letC_size]); first | exact sizePeer | exact sizeID | exact sizeLetter | exact sizeRd) (h := ?_); clear hm; intro w1 hm; (try simp only [rowOf_set, set_kind, set_req, set_done, k1, k2, k3, Value.cells, Act.eval, k7, k8, k9, kA, Option.getD_some] at hm)) | (refine wlSM (by rfl) hm (by rfl) (by with_reducible first | exact at0 | exact at1 | exact at2 | exact at3) (by rfl) (by first | rfl | exact idV_eq _ | exact peerV_eq _ _ | exact letV_eq _) (by first | exact peerC_one _ _ | exact idC_one _) (by first | (rw [peerC_size]; exact sizePeer) | (rw [idC_size]; exact sizeID)) (by simp only [rowOf_size, idC_size, peerC_size, letC_size]; decide) (by first | exact mid_from _ _ _ | exact mid_peer _ _ _ | exact mid_id _ _) ?_; clear hm; intro w1 hm; simp only [k2, k3] at hm) | (refine wlSC (hm := hm) (hi := by first | exact sizeInt | exact sizeU64 | exact sizeBool | exact sizeIntS | exact sizePeerS | exact sizeStr | exact sizeRdP | exact sizeErr) (ho := by first | decide | (simp only [rowOf_size, idC_size, peerC_size, letC_size]; omega) | (simp; done)) (h := ?_); clear hm; intro w1 hm; (try simp only [rowOf_set, set_kind, set_req, set_done, k1, k2, k3, Value.cells, Act.eval, k7, k8, k9, kA, Option.getD_some] at hm)) | (refine wlA (hz := by first | exact zeroPeer | exact zeroID | exact zeroLetter | exact zeroRd | exact zeroErr) (hm := hm) (h := ?_); clear hm; intro b1 w1 hm; (try simp only [rowOf_set, set_kind, set_req, set_done, k1, k2, k3, Value.cells, Act.eval, k7, k8, k9, kA, Option.getD_some] at hm)) | (refine wl_box (by rfl) rfl (by first | exact peerV_cells _ _ | exact letV_cells _ | exact idV_cells _ | rfl) hm ?_; clear hm; intro b1 w1 hm) | (refine wl_build (by rfl) (built_rdr _) rfl ?_; (try simp only [Act.put, k1, k2, k3]); (try simp only [← peerV_eq, ← idV_eq, ← letV_eq])) | (go_at_call 73; refine (hp _ (hm.heap (by with_reducible first | exact at0 | exact at1 | exact at2 | exact at3))).mono ?_; rintro e w1 ⟨rfl, hx⟩; replace hm := hm.callAt (by with_reducible first | exact at0 | exact at1 | exact at2 | exact at3) hx; clear hx; simp only [k2, k3] at hm) | (with_reducible first | refine stBs ?_ | refine stMs ?_ | refine stAp ?_ | refine stCo ?_)); (try simp only [k4, k5, k6, Act.put, k1, k2, k3]))
            refine get_pan ?_ hm (letC_size _) rfl rfl rfl rfl rfl
            rw [← HR.out]; unfold getA; simp only [HK.out, HF.out, ok_bind, F0.out, E3.out, F1.out, E4.out, F2.out, E5.out, F3.out, E6.out, F4.out, HL.out, E7.out, EY.out, E8.out, F5.out, opM_true, H3.out]; rfl
          · have hp := gN_c h3 rb (lo' := 0) (hi' := 8) rfl rfl
            have hn16 : n ≤ 8 := (gN_ok h3).2.2.2.2
            have H3 := hid h3
            clear h3
            go_wp2_with ((first | refine wpList_skip (by rfl) ?_ | (refine wlL (hm := hm) (hu := by first | exact undPeer | exact undID | exact undLetter | exact undRd) (hi := by (try simp only [rowOf_size, idC_size, peerC_size, letC_size]); first | exact sizePeer | exact sizeID | exact sizeLetter | exact sizeRd) (h := ?_); (try simp only [Act.put, k1, k2, k3]); (try simp only [← peerV_eq, ← idV_eq, ← letV_eq])) | refine wlLC (hm := hm) (hv := by first | exact let0 _ | exact let1 _ | exact let22 _ | exact let43 _ | exact let44 _ | exact let45 _ | exact let66 _ | rfl) (hu := by first | exact undInt | exact undU64 | exact undBool | exact undIntS | exact undPeerS | exact undStr | exact undRdP | exact undErr) (h := ?_) | (refine yS (hm := hm) (hi := by (try simp only [rowOf_size, idC_size, peerC_size, letC_size]); first | exact sizePeer | exact sizeID | exact sizeLetter | exact sizeRd) (h := ?_); clear hm; intro w1 hm; (try simp only [rowOf_set, set_kind, set_req, set_done, k1, k2, k3, Value.cells, Act.eval, k7, k8, k9, kA, Option.getD_some] at hm)) | (refine wlSM (by rfl) hm (by rfl) (by with_reducible first | exact at0 | exact at1 | exact at2 | exact at3) (by rfl) (by first | rfl | exact idV_eq _ | exact peerV_eq _ _ | exact letV_eq _) (by first | exact peerC_one _ _ | exact idC_one _) (by first | (rw [peerC_size]; exact sizePeer) | (rw [idC_size]; exact sizeID)) (by simp only [rowOf_size, idC_size, peerC_size, letC_size]; decide) (by first | exact mid_from _ _ _ | exact mid_peer _ _ _ | exact mid_id _ _) ?_; clear hm; intro w1 hm; simp only [k2, k3] at hm) | (refine wlSC (hm := hm) (hi := by first | exact sizeInt | exact sizeU64 | exact sizeBool | exact sizeIntS | exact sizePeerS | exact sizeStr | exact sizeRdP | exact sizeErr) (ho := by first | decide | (simp only [rowOf_size, idC_size, peerC_size, letC_size]; omega) | (simp; done)) (h := ?_); clear hm; intro w1 hm; (try simp only [rowOf_set, set_kind, set_req, set_done, k1, k2, k3, Value.cells, Act.eval, k7, k8, k9, kA, Option.getD_some] at hm)) | (refine wlA (hz := by first | exact zeroPeer | exact zeroID | exact zeroLetter | exact zeroRd | exact zeroErr) (hm := hm) (h := ?_); clear hm; intro b1 w1 hm; (try simp only [rowOf_set, set_kind, set_req, set_done, k1, k2, k3, Value.cells, Act.eval, k7, k8, k9, kA, Option.getD_some] at hm)) | (refine wl_box (by rfl) rfl (by first | exact peerV_cells _ _ | exact letV_cells _ | exact idV_cells _ | rfl) hm ?_; clear hm; intro b1 w1 hm) | (refine wl_build (by rfl) (built_rdr _) rfl ?_; (try simp only [Act.put, k1, k2, k3]); (try simp only [← peerV_eq, ← idV_eq, ← letV_eq])) | (go_at_call 73; refine (hp _ (hm.heap (by with_reducible first | exact at0 | exact at1 | exact at2 | exact at3))).mono ?_; rintro e w1 ⟨rfl, hx⟩; replace hm := hm.callAt (by with_reducible first | exact at0 | exact at1 | exact at2 | exact at3) hx; clear hx; simp only [k2, k3] at hm) | (with_reducible first | refine stBs ?_ | refine stMs ?_ | refine stAp ?_ | refine stCo ?_)); (try simp only [k4, k5, k6, Act.put, k1, k2, k3]))
            clear hp
            go_loopw [82] (fun vi wr => ∃ (i : Nat) (av : List (Nat × Nat)) (s6 : ByteArray) (c : Option Addr) (cap : Nat) (S : List (Nat × Obj)), i ≤ n ∧ vi = .int .u64 (i : Int) ∧ gMany gP i s5 = .ok (av, s6) ∧ RowSl 60 21 (.slice c i cap) (av.map peerR) S ∧ Mem w [] ((rc, .cells #[.pointer (some ⟨rb, 0, none⟩)] 103 (0, 0)) :: (rb, .cells #[.string s6] 76 (0, 0)) :: (eb, .cells #[.int .i64 0] 27 (0, 0)) :: (lb, .cells (letC ⟨(k : Int), (a : Int), p, rq, id, ac, an, acap, (d == 1), q.1, q.2, c, i, cap⟩) 63 (0, 0)) :: (SA ++ S)) wr) (fun vi _ => (n - intOf vi).toNat)
            case atStart => exact ⟨0, [], s5, none, 0, [], by omega, rfl, rfl, RowSl.nil _ _, by rw [List.append_nil]; exact hm⟩
            case round =>
              clear hm
              obtain ⟨i, av, s6, c, cap, S, hi, rfl, hg, hrow, hm⟩ := hrel
              have HLen := hid (show (av.map peerR).length ≤ 16 by rw [List.length_map, gMany_len hg]; omega)
              by_cases hin : i < n
              · have e1 : (i : Int) < (n : Int) := by omega
                have gg : IntKind.u64.wrap ((i : Int) + 1) = (i : Int) + 1 := wrap_u64 (by omega) (by omega)
                have HI := hid hi
                have HIN := hid hin
                have HG := hid hg
                have HS := hid hrow
                have HN := hid hn16
                clear hi hin hg hrow hn16
                rcases hv : gP s6 with x | ⟨v, s7⟩
                · obtain ⟨r, hp⟩ := gP_x hv rb
                  have HV := hid hv
                  clear hv
                  go_wp2_with (with_reducible first | refine stAl ?_ | refine stBo ?_ | refine stLo ?_ | refine stSo ?_ | refine stBu ?_ | refine stBs ?_ | refine stMs ?_ | refine stAp ?_ | refine stCo ?_)
                  refine wp_region_G (C := [(100, Mem w [] [(rc, .cells #[.pointer (some ⟨rb, 0, none⟩)] 103 (0, 0))]), (5, Mem w [] [(rc, .cells #[.pointer (some ⟨rb, 0, none⟩)] 103 (0, 0)), (lb, .cells (letC ⟨(k : Int), (a : Int), p, rq, id, ac, an, acap, (d == 1), q.1, q.2, c, i, cap⟩) 63 (0, 0))])]) (by kernel_rfl) ?_
                  replace hm := hm.drew
                  have hS : Held [(100, Mem w [] [(rc, .cells #[.pointer (some ⟨rb, 0, none⟩)] 103 (0, 0))]), (5, Mem w [] [(rc, .cells #[.pointer (some ⟨rb, 0, none⟩)] 103 (0, 0)), (lb, .cells (letC ⟨(k : Int), (a : Int), p, rq, id, ac, an, acap, (d == 1), q.1, q.2, c, i, cap⟩) 63 (0, 0))])] [] _ := Held.cons (hm.sub (.cons_cons _ (List.nil_sublist _))) (Held.cons (hm.sub (.cons_cons _ (.cons _ (.cons _ (.cons_cons _ (List.nil_sublist _)))))) (Held.nil _ _))
                  refine wgS (i := 0) 0 (hQ := by intro _ _ _ h; exact get_put (by decide) (by decide) h) (hS := hS) (h := ?_); simp only [k4, k5, k6, Act.put, k1, k2, k3]
                  refine wgS (i := 1) 1 (hQ := by intro _ _ _ h; exact get_put (by decide) (by decide) h) (hS := hS) (h1 := ld_cell (i := 1) rfl rfl (let66 _) undPeerS rfl) (h := ?_); simp only [k4, k5, k6, Act.put, k1, k2, k3]
                  refine wgS (i := 2) 0 (hQ := by intro _ _ _ h; exact get_put (by decide) (by decide) h) (hS := hS) (h1 := ld_row (i := 0) rfl rfl undRd rfl (by exact sizeRd)) (h := ?_); simp only [k4, k5, k6, Act.put, k1, k2, k3]
                  refine wgO (i := 3) (done := []) (h := fun K' hK => ?_); go_simp; refine (hp _ (hm.heap (i := 1) rfl)).mono ?_; rintro e w7 ⟨rfl, hx⟩; replace hm := hm.callAt (i := 1) rfl hx; clear hx hS; simp only [k2, k3] at hm
                  refine get_pan ?_ hm (letC_size _) rfl rfl rfl rfl rfl
                  rw [← HR.out]; unfold getA; simp only [HK.out, HF.out, ok_bind, F0.out, E3.out, F1.out, E4.out, F2.out, E5.out, F3.out, E6.out, F4.out, HL.out, E7.out, EY.out, E8.out, F5.out, opM_true, H3.out, gMany_err HG.out HV.out HIN.out]; rfl
                · have hp := gP_c hv rb
                  have HV := hid hv
                  clear hv
                  have HLen2 := hid (show (av.map peerR ++ [peerR v]).length = i + 1 by rw [List.length_append, List.length_map, gMany_len HG.out]; rfl)
                  go_wp2_with (with_reducible first | refine stAl ?_ | refine stBo ?_ | refine stLo ?_ | refine stSo ?_ | refine stBu ?_ | refine stBs ?_ | refine stMs ?_ | refine stAp ?_ | refine stCo ?_)
                  refine wp_region_G (C := [(100, Mem w [] [(rc, .cells #[.pointer (some ⟨rb, 0, none⟩)] 103 (0, 0))]), (5, Mem w [] [(rc, .cells #[.pointer (some ⟨rb, 0, none⟩)] 103 (0, 0)), (lb, .cells (letC ⟨(k : Int), (a : Int), p, rq, id, ac, an, acap, (d == 1), q.1, q.2, c, i, cap⟩) 63 (0, 0))])]) (by kernel_rfl) ?_
                  replace hm := hm.drew
                  have hS : Held [(100, Mem w [] [(rc, .cells #[.pointer (some ⟨rb, 0, none⟩)] 103 (0, 0))]), (5, Mem w [] [(rc, .cells #[.pointer (some ⟨rb, 0, none⟩)] 103 (0, 0)), (lb, .cells (letC ⟨(k : Int), (a : Int), p, rq, id, ac, an, acap, (d == 1), q.1, q.2, c, i, cap⟩) 63 (0, 0))])] [] _ := Held.cons (hm.sub (.cons_cons _ (List.nil_sublist _))) (Held.cons (hm.sub (.cons_cons _ (.cons _ (.cons _ (.cons_cons _ (List.nil_sublist _)))))) (Held.nil _ _))
                  refine wgS (i := 0) 0 (hQ := by intro _ _ _ h; exact get_put (by decide) (by decide) h) (hS := hS) (h := ?_); simp only [k4, k5, k6, Act.put, k1, k2, k3]
                  refine wgS (i := 1) 1 (hQ := by intro _ _ _ h; exact get_put (by decide) (by decide) h) (hS := hS) (h1 := ld_cell (i := 1) rfl rfl (let66 _) undPeerS rfl) (h := ?_); simp only [k4, k5, k6, Act.put, k1, k2, k3]
                  refine wgS (i := 2) 0 (hQ := by intro _ _ _ h; exact get_put (by decide) (by decide) h) (hS := hS) (h1 := ld_row (i := 0) rfl rfl undRd rfl (by exact sizeRd)) (h := ?_); simp only [k4, k5, k6, Act.put, k1, k2, k3]
                  refine wgO (i := 3) (done := []) (h := fun K' hK => ?_); go_simp; refine (hp _ (hm.heap (i := 1) rfl)).mono ?_; rintro e w7 ⟨rfl, hx⟩; replace hm := hm.callAt (i := 1) rfl hx; clear hx hS; simp only [k2, k3] at hm
                  have hS : Held [(100, Mem w [] [(rc, .cells #[.pointer (some ⟨rb, 0, none⟩)] 103 (0, 0))]), (5, Mem w [] [(rc, .cells #[.pointer (some ⟨rb, 0, none⟩)] 103 (0, 0)), (lb, .cells (letC ⟨(k : Int), (a : Int), p, rq, id, ac, an, acap, (d == 1), q.1, q.2, c, i, cap⟩) 63 (0, 0))])] [] _ := Held.cons (hm.sub (.cons_cons _ (List.nil_sublist _))) (Held.cons (hm.sub (.cons_cons _ (.cons _ (.cons _ (.cons_cons _ (List.nil_sublist _)))))) (Held.nil _ _))
                  refine hK.out _ _ hS ?_; clear hK K'; (try (simp only [k4, k5, k6, Act.put, k1, k2, k3]))
                  refine wgO (i := 4) (done := []) (h := fun K' hK => ?_); refine ow_buildSlice (ps := [(0, peerV (v.1 : Int) v.2)]) (cells := rowOf 21 (peerR v)) hm elPeer (by decide) (by decide) (by simp [Act.eval]) (fill_peer _ _) ?_; clear hm hS; intro gn w8 hm
                  have hS : Held [(100, Mem w [] [(rc, .cells #[.pointer (some ⟨rb, 0, none⟩)] 103 (0, 0))]), (5, Mem w [] [(rc, .cells #[.pointer (some ⟨rb, 0, none⟩)] 103 (0, 0)), (lb, .cells (letC ⟨(k : Int), (a : Int), p, rq, id, ac, an, acap, (d == 1), q.1, q.2, c, i, cap⟩) 63 (0, 0))])] [] _ := Held.cons (hm.sub (.cons _ (.cons_cons _ (List.nil_sublist _)))) (Held.cons (hm.sub (.cons _ (.cons_cons _ (.cons _ (.cons _ (.cons_cons _ (List.nil_sublist _))))))) (Held.nil _ _))
                  refine hK.out _ _ hS ?_; clear hK K'; (try (simp only [k4, k5, k6, Act.put, k1, k2, k3]))
                  refine wgO (i := 5) (done := [5]) (h := fun K' hK => ?_); refine ow_append_row (R := (_ :: _ :: _ :: _ :: SA)) (F := peerR v) elPeer (by rw [peerV_cells, peerC_size]) (by decide) (fun _ _ => peerR_one _ _) HS.out hm rfl rfl (by have := HLen.out; omega) (by have := HLen.out; omega) ?_; clear hm hS; intro sv S2 w9 hS2 hm; obtain ⟨c2, cap2, rfl⟩ := hS2.len HLen2.out
                  have hS : Held [(100, Mem w [] [(rc, .cells #[.pointer (some ⟨rb, 0, none⟩)] 103 (0, 0))]), (5, Mem w [] [(rc, .cells #[.pointer (some ⟨rb, 0, none⟩)] 103 (0, 0)), (lb, .cells (letC ⟨(k : Int), (a : Int), p, rq, id, ac, an, acap, (d == 1), q.1, q.2, c, i, cap⟩) 63 (0, 0))])] [5] _ := Held.cons (hm.sub (.cons_cons _ (List.nil_sublist _))) (Held.skip rfl (Held.nil _ _))
                  refine hK.out _ _ hS ?_; clear hK K'; (try (simp only [k4, k5, k6, Act.put, k1, k2, k3]))
                  refine wgS (i := 6) 0 (hQ := by intro _ _ _ h; exact get_put (by decide) (by decide) h) (hS := hS) (h := ?_); simp only [k4, k5, k6, Act.put, k1, k2, k3]
                  refine wgO (i := 7) (done := [5]) (h := fun K' hK => ?_); refine ow_storeCellE (i := 3) hm rfl rfl rfl rfl sizePeerS (by rw [letC_size]; decide) (set_ps _ _ _ _) ?_; clear hm hS; intro w10 hm; simp only [List.cons_append, List.nil_append, k2, k3] at hm
                  have hS : Held [(100, Mem w [] [(rc, .cells #[.pointer (some ⟨rb, 0, none⟩)] 103 (0, 0))]), (5, Mem w [] [(rc, .cells #[.pointer (some ⟨rb, 0, none⟩)] 103 (0, 0)), (lb, .cells (letC ⟨(k : Int), (a : Int), p, rq, id, ac, an, acap, (d == 1), q.1, q.2, c, i, cap⟩) 63 (0, 0))])] [5] _ := Held.cons (hm.sub (.cons_cons _ (List.nil_sublist _))) (Held.skip rfl (Held.nil _ _))
                  refine hK.out _ _ hS ?_; clear hK K' hS; simp only [k4, k5, k6, Act.put, k1, k2, k3]
                  refine wgE (h := ?_)
                  clear hp
                  go_wp2_with ((first | refine wpList_skip (by rfl) ?_ | (refine wlL (hm := hm) (hu := by first | exact undPeer | exact undID | exact undLetter | exact undRd) (hi := by (try simp only [rowOf_size, idC_size, peerC_size, letC_size]); first | exact sizePeer | exact sizeID | exact sizeLetter | exact sizeRd) (h := ?_); (try simp only [Act.put, k1, k2, k3]); (try simp only [← peerV_eq, ← idV_eq, ← letV_eq])) | refine wlLC (hm := hm) (hv := by first | exact let0 _ | exact let1 _ | exact let22 _ | exact let43 _ | exact let44 _ | exact let45 _ | exact let66 _ | rfl) (hu := by first | exact undInt | exact undU64 | exact undBool | exact undIntS | exact undPeerS | exact undStr | exact undRdP | exact undErr) (h := ?_) | (refine yS (hm := hm) (hi := by (try simp only [rowOf_size, idC_size, peerC_size, letC_size]); first | exact sizePeer | exact sizeID | exact sizeLetter | exact sizeRd) (h := ?_); clear hm; intro w1 hm; (try simp only [rowOf_set, set_kind, set_req, set_done, k1, k2, k3, Value.cells, Act.eval, k7, k8, k9, kA, Option.getD_some] at hm)) | (refine wlSM (by rfl) hm (by rfl) (by with_reducible first | exact at0 | exact at1 | exact at2 | exact at3) (by rfl) (by first | rfl | exact idV_eq _ | exact peerV_eq _ _ | exact letV_eq _) (by first | exact peerC_one _ _ | exact idC_one _) (by first | (rw [peerC_size]; exact sizePeer) | (rw [idC_size]; exact sizeID)) (by simp only [rowOf_size, idC_size, peerC_size, letC_size]; decide) (by first | exact mid_from _ _ _ | exact mid_peer _ _ _ | exact mid_id _ _) ?_; clear hm; intro w1 hm; simp only [k2, k3] at hm) | (refine wlSC (hm := hm) (hi := by first | exact sizeInt | exact sizeU64 | exact sizeBool | exact sizeIntS | exact sizePeerS | exact sizeStr | exact sizeRdP | exact sizeErr) (ho := by first | decide | (simp only [rowOf_size, idC_size, peerC_size, letC_size]; omega) | (simp; done)) (h := ?_); clear hm; intro w1 hm; (try simp only [rowOf_set, set_kind, set_req, set_done, k1, k2, k3, Value.cells, Act.eval, k7, k8, k9, kA, Option.getD_some] at hm)) | (refine wlA (hz := by first | exact zeroPeer | exact zeroID | exact zeroLetter | exact zeroRd | exact zeroErr) (hm := hm) (h := ?_); clear hm; intro b1 w1 hm; (try simp only [rowOf_set, set_kind, set_req, set_done, k1, k2, k3, Value.cells, Act.eval, k7, k8, k9, kA, Option.getD_some] at hm)) | (refine wl_box (by rfl) rfl (by first | exact peerV_cells _ _ | exact letV_cells _ | exact idV_cells _ | rfl) hm ?_; clear hm; intro b1 w1 hm) | (refine wl_build (by rfl) (built_rdr _) rfl ?_; (try simp only [Act.put, k1, k2, k3]); (try simp only [← peerV_eq, ← idV_eq, ← letV_eq])) | (with_reducible first | refine stBs ?_ | refine stMs ?_ | refine stAp ?_ | refine stCo ?_)); (try simp only [k4, k5, k6, Act.put, k1, k2, k3]))
                  go_roundw
                  case rel => exact ⟨i + 1, av ++ [v], s7, c2, cap2, S2, HIN.out, by go_num, gMany_ok HG.out HV.out, by rw [List.map_append]; exact hS2, hm⟩
                  case measure => (have := HIN.out; simp [intOf]; try omega)
              · obtain rfl : i = n := by omega
                have e1 : ¬ (i : Int) < (i : Int) := by omega
                have HG := hid hg
                have HS := hid hrow
                clear hi hin hg hrow hn16
                go_wp2_with ((first | refine wpList_skip (by rfl) ?_ | (refine wlL (hm := hm) (hu := by first | exact undPeer | exact undID | exact undLetter | exact undRd) (hi := by (try simp only [rowOf_size, idC_size, peerC_size, letC_size]); first | exact sizePeer | exact sizeID | exact sizeLetter | exact sizeRd) (h := ?_); (try simp only [Act.put, k1, k2, k3]); (try simp only [← peerV_eq, ← idV_eq, ← letV_eq])) | refine wlLC (hm := hm) (hv := by first | exact let0 _ | exact let1 _ | exact let22 _ | exact let43 _ | exact let44 _ | exact let45 _ | exact let66 _ | rfl) (hu := by first | exact undInt | exact undU64 | exact undBool | exact undIntS | exact undPeerS | exact undStr | exact undRdP | exact undErr) (h := ?_) | (refine yS (hm := hm) (hi := by (try simp only [rowOf_size, idC_size, peerC_size, letC_size]); first | exact sizePeer | exact sizeID | exact sizeLetter | exact sizeRd) (h := ?_); clear hm; intro w1 hm; (try simp only [rowOf_set, set_kind, set_req, set_done, k1, k2, k3, Value.cells, Act.eval, k7, k8, k9, kA, Option.getD_some] at hm)) | (refine wlSM (by rfl) hm (by rfl) (by with_reducible first | exact at0 | exact at1 | exact at2 | exact at3) (by rfl) (by first | rfl | exact idV_eq _ | exact peerV_eq _ _ | exact letV_eq _) (by first | exact peerC_one _ _ | exact idC_one _) (by first | (rw [peerC_size]; exact sizePeer) | (rw [idC_size]; exact sizeID)) (by simp only [rowOf_size, idC_size, peerC_size, letC_size]; decide) (by first | exact mid_from _ _ _ | exact mid_peer _ _ _ | exact mid_id _ _) ?_; clear hm; intro w1 hm; simp only [k2, k3] at hm) | (refine wlSC (hm := hm) (hi := by first | exact sizeInt | exact sizeU64 | exact sizeBool | exact sizeIntS | exact sizePeerS | exact sizeStr | exact sizeRdP | exact sizeErr) (ho := by first | decide | (simp only [rowOf_size, idC_size, peerC_size, letC_size]; omega) | (simp; done)) (h := ?_); clear hm; intro w1 hm; (try simp only [rowOf_set, set_kind, set_req, set_done, k1, k2, k3, Value.cells, Act.eval, k7, k8, k9, kA, Option.getD_some] at hm)) | (refine wlA (hz := by first | exact zeroPeer | exact zeroID | exact zeroLetter | exact zeroRd | exact zeroErr) (hm := hm) (h := ?_); clear hm; intro b1 w1 hm; (try simp only [rowOf_set, set_kind, set_req, set_done, k1, k2, k3, Value.cells, Act.eval, k7, k8, k9, kA, Option.getD_some] at hm)) | (refine wl_box (by rfl) rfl (by first | exact peerV_cells _ _ | exact letV_cells _ | exact idV_cells _ | rfl) hm ?_; clear hm; intro b1 w1 hm) | (refine wl_build (by rfl) (built_rdr _) rfl ?_; (try simp only [Act.put, k1, k2, k3]); (try simp only [← peerV_eq, ← idV_eq, ← letV_eq])) | (with_reducible first | refine stBs ?_ | refine stMs ?_ | refine stAp ?_ | refine stCo ?_)); (try simp only [k4, k5, k6, Act.put, k1, k2, k3]))
                go_meet
                exact ⟨av, s6, c, i, cap, S, by simp only [opM_true, H3.out, ok_bind, HG.out], HS.out, hm⟩
      clear hm g5
      obtain ⟨ps, s9, pc, pn, pcap, SP, h3, hrow, hm⟩ := hcut
      have E9 := hid h3
      have HSP := hid hrow
      clear h3 hrow
      obtain ⟨m, hm9⟩ : ∃ m, s9.size = m := ⟨_, rfl⟩
      have hp := left_c rb s9 m hm9
      have HM := hid hm9
      clear hm9
      by_cases hz : 0 < m
      · have e1 : (0 : Int) < (m : Int) := by omega
        go_wp2_with ((first | refine wpList_skip (by rfl) ?_ | (refine wlL (hm := hm) (hu := by first | exact undPeer | exact undID | exact undLetter | exact undRd) (hi := by (try simp only [rowOf_size, idC_size, peerC_size, letC_size]); first | exact sizePeer | exact sizeID | exact sizeLetter | exact sizeRd) (h := ?_); (try simp only [Act.put, k1, k2, k3]); (try simp only [← peerV_eq, ← idV_eq, ← letV_eq])) | refine wlLC (hm := hm) (hv := by first | exact let0 _ | exact let1 _ | exact let22 _ | exact let43 _ | exact let44 _ | exact let45 _ | exact let66 _ | rfl) (hu := by first | exact undInt | exact undU64 | exact undBool | exact undIntS | exact undPeerS | exact undStr | exact undRdP | exact undErr) (h := ?_) | (refine yS (hm := hm) (hi := by (try simp only [rowOf_size, idC_size, peerC_size, letC_size]); first | exact sizePeer | exact sizeID | exact sizeLetter | exact sizeRd) (h := ?_); clear hm; intro w1 hm; (try simp only [rowOf_set, set_kind, set_req, set_done, k1, k2, k3, Value.cells, Act.eval, k7, k8, k9, kA, Option.getD_some] at hm)) | (refine wlSM (by rfl) hm (by rfl) (by with_reducible first | exact at0 | exact at1 | exact at2 | exact at3) (by rfl) (by first | rfl | exact idV_eq _ | exact peerV_eq _ _ | exact letV_eq _) (by first | exact peerC_one _ _ | exact idC_one _) (by first | (rw [peerC_size]; exact sizePeer) | (rw [idC_size]; exact sizeID)) (by simp only [rowOf_size, idC_size, peerC_size, letC_size]; decide) (by first | exact mid_from _ _ _ | exact mid_peer _ _ _ | exact mid_id _ _) ?_; clear hm; intro w1 hm; simp only [k2, k3] at hm) | (refine wlSC (hm := hm) (hi := by first | exact sizeInt | exact sizeU64 | exact sizeBool | exact sizeIntS | exact sizePeerS | exact sizeStr | exact sizeRdP | exact sizeErr) (ho := by first | decide | (simp only [rowOf_size, idC_size, peerC_size, letC_size]; omega) | (simp; done)) (h := ?_); clear hm; intro w1 hm; (try simp only [rowOf_set, set_kind, set_req, set_done, k1, k2, k3, Value.cells, Act.eval, k7, k8, k9, kA, Option.getD_some] at hm)) | (refine wlA (hz := by first | exact zeroPeer | exact zeroID | exact zeroLetter | exact zeroRd | exact zeroErr) (hm := hm) (h := ?_); clear hm; intro b1 w1 hm; (try simp only [rowOf_set, set_kind, set_req, set_done, k1, k2, k3, Value.cells, Act.eval, k7, k8, k9, kA, Option.getD_some] at hm)) | (refine wl_box (by rfl) rfl (by first | exact peerV_cells _ _ | exact letV_cells _ | exact idV_cells _ | rfl) hm ?_; clear hm; intro b1 w1 hm) | (refine wl_build (by rfl) (built_rdr _) rfl ?_; (try simp only [Act.put, k1, k2, k3]); (try simp only [← peerV_eq, ← idV_eq, ← letV_eq])) | (go_at_call 27; refine (hp _ (hm.heap (by with_reducible first | exact at0 | exact at1 | exact at2 | exact at3))).mono ?_; rintro e w1 ⟨rfl, hx⟩; replace hm := hm.callAt (by with_reducible first | exact at0 | exact at1 | exact at2 | exact at3) hx; clear hx; simp only [k2, k3] at hm) | (with_reducible first | refine stBs ?_ | refine stMs ?_ | refine stAp ?_ | refine stCo ?_)); (try simp only [k4, k5, k6, Act.put, k1, k2, k3]))
        refine get_pan (x := 3) ?_ hm (letC_size _) rfl rfl rfl rfl rfl
        rw [← HR.out]; unfold getA; simp only [HK.out, HF.out, ok_bind, F0.out, E3.out, F1.out, E4.out, F2.out, E5.out, F3.out, E6.out, F4.out, HL.out, E7.out, EY.out, E8.out, F5.out, E9.out, HM.out, if_pos hz]
      · obtain rfl : m = 0 := by omega
        clear hz
        go_wp2_with ((first | refine wpList_skip (by rfl) ?_ | (refine wlL (hm := hm) (hu := by first | exact undPeer | exact undID | exact undLetter | exact undRd) (hi := by (try simp only [rowOf_size, idC_size, peerC_size, letC_size]); first | exact sizePeer | exact sizeID | exact sizeLetter | exact sizeRd) (h := ?_); (try simp only [Act.put, k1, k2, k3]); (try simp only [← peerV_eq, ← idV_eq, ← letV_eq])) | refine wlLC (hm := hm) (hv := by first | exact let0 _ | exact let1 _ | exact let22 _ | exact let43 _ | exact let44 _ | exact let45 _ | exact let66 _ | rfl) (hu := by first | exact undInt | exact undU64 | exact undBool | exact undIntS | exact undPeerS | exact undStr | exact undRdP | exact undErr) (h := ?_) | (refine yS (hm := hm) (hi := by (try simp only [rowOf_size, idC_size, peerC_size, letC_size]); first | exact sizePeer | exact sizeID | exact sizeLetter | exact sizeRd) (h := ?_); clear hm; intro w1 hm; (try simp only [rowOf_set, set_kind, set_req, set_done, k1, k2, k3, Value.cells, Act.eval, k7, k8, k9, kA, Option.getD_some] at hm)) | (refine wlSM (by rfl) hm (by rfl) (by with_reducible first | exact at0 | exact at1 | exact at2 | exact at3) (by rfl) (by first | rfl | exact idV_eq _ | exact peerV_eq _ _ | exact letV_eq _) (by first | exact peerC_one _ _ | exact idC_one _) (by first | (rw [peerC_size]; exact sizePeer) | (rw [idC_size]; exact sizeID)) (by simp only [rowOf_size, idC_size, peerC_size, letC_size]; decide) (by first | exact mid_from _ _ _ | exact mid_peer _ _ _ | exact mid_id _ _) ?_; clear hm; intro w1 hm; simp only [k2, k3] at hm) | (refine wlSC (hm := hm) (hi := by first | exact sizeInt | exact sizeU64 | exact sizeBool | exact sizeIntS | exact sizePeerS | exact sizeStr | exact sizeRdP | exact sizeErr) (ho := by first | decide | (simp only [rowOf_size, idC_size, peerC_size, letC_size]; omega) | (simp; done)) (h := ?_); clear hm; intro w1 hm; (try simp only [rowOf_set, set_kind, set_req, set_done, k1, k2, k3, Value.cells, Act.eval, k7, k8, k9, kA, Option.getD_some] at hm)) | (refine wlA (hz := by first | exact zeroPeer | exact zeroID | exact zeroLetter | exact zeroRd | exact zeroErr) (hm := hm) (h := ?_); clear hm; intro b1 w1 hm; (try simp only [rowOf_set, set_kind, set_req, set_done, k1, k2, k3, Value.cells, Act.eval, k7, k8, k9, kA, Option.getD_some] at hm)) | (refine wl_box (by rfl) rfl (by first | exact peerV_cells _ _ | exact letV_cells _ | exact idV_cells _ | rfl) hm ?_; clear hm; intro b1 w1 hm) | (refine wl_build (by rfl) (built_rdr _) rfl ?_; (try simp only [Act.put, k1, k2, k3]); (try simp only [← peerV_eq, ← idV_eq, ← letV_eq])) | (go_at_call 27; refine (hp _ (hm.heap (by with_reducible first | exact at0 | exact at1 | exact at2 | exact at3))).mono ?_; rintro e w1 ⟨rfl, hx⟩; replace hm := hm.callAt (by with_reducible first | exact at0 | exact at1 | exact at2 | exact at3) hx; clear hx; simp only [k2, k3] at hm) | (with_reducible first | refine stBs ?_ | refine stMs ?_ | refine stAp ?_ | refine stCo ?_)); (try simp only [k4, k5, k6, Act.put, k1, k2, k3]))
        have hA := ints_of_row HSA.out (A := [_, _, _, _]) (B := SP) hm
        have hP := peers_of_row HSP.out (A := _ :: _ :: _ :: _ :: SA) (B := []) (by rw [List.append_nil]; exact hm)
        refine ⟨lb, eb, _, rfl, rfl, rfl, hm, _, ⟨k, a, p, rq, id, av, d == 1, q.1, q.2, ps⟩, ?_, rfl, rfl, SA ++ SP, .cons _ (.cons _ (.cons _ (.cons _ (.refl _)))), ?_⟩
        · rw [← HR.out]; unfold getA; simp only [HK.out, HF.out, ok_bind, F0.out, E3.out, F1.out, E4.out, F2.out, E5.out, F3.out, E6.out, F4.out, HL.out, E7.out, EY.out, E8.out, F5.out, E9.out, HM.out]; rfl
        · exact ⟨rfl, rfl, rfl, rfl, rfl, hA.1, rfl, rfl, rfl, hP.1, SA, SP, rfl, HSA.out, HSP.out⟩
end Go.Proofs.Ytijkmbebfodhdaa

/- (LetY) -/
namespace Go.Proofs.Ytijkmbebfodhdaa
open Go.RowKit
set_option linter.unusedSimpArgs false
set_option linter.unusedVariables false
set_option maxHeartbeats 1000000
set_option maxRecDepth 20000
attribute [local irreducible] wpQuiet wpList wpAnyH Calls
/-- Is a letter right? -/
def rightL (l : Let) (r : Rows5) : Bool :=
  isB (kindM l.kind) (bits .andNot .i64 ((upto (six ((l.req : Int) != 0) (!eqId l.id 0) (decide (0 < l.an)) l.done (!samePeer l.pa l.pi (-1) 0) (decide (0 < l.pn))) 6 : Nat) : Int) ((partsM l.kind : Nat) : Int) != 0) (oddM l.fa) (decide (16 < l.an)) (decide (8 < l.pn))
    (samePeer l.pa l.pi (-1) 0) (l.kind == 2) (oddM l.pa) (anyOdd r.av l.an) (anyOdd r.pa l.pn)
theorem lis_c (l : Let) (r : Rows5) (hn : l.an < 2 ^ 62) (hp : l.pn < 2 ^ 62) (w : World) (hl : LetAt w l r) :
    Calls Try.prog 39 #[letV l] w fun e w' => e = .returned (.bool (rightL l r)) ∧ Ext w w' :=
  is_walk l r hn hp _ _ _ _ _ _ _ _ _ _ _ _ (parts_c l.kind) (used_c l _ _ _ _ _ _ rfl rfl rfl rfl rfl rfl) (odd_c _) (odd_c _) rfl rfl (by rw [decide_eq_decide]; omega) rfl (by rw [decide_eq_decide]; omega) rfl rfl rfl rfl w hl
def badB (k : Nat) (b0 b1 b2 b3 b4 b5 : Bool) : Bool := (b0 && !hasB k 0) || ((b1 && !hasB k 1) || ((b2 && !hasB k 2) || ((b3 && !hasB k 3) || ((b4 && !hasB k 4) || (b5 && !hasB k 5)))))
theorem link : ∀ k : Fin 9, ∀ b0 b1 b2 b3 b4 b5 : Bool, (bits .andNot .i64 ((upto (six b0 b1 b2 b3 b4 b5) 6 : Nat) : Int) ((partsM ((k.val : Nat) : Int) : Nat) : Int) != 0) = badB k.val b0 b1 b2 b3 b4 b5 := by decide +kernel
/-- Whether a letter is right, when nothing is seen early. -/
theorem right_late {l : Let} {r : Rows5} {k : Nat} (hk : l.kind = (k : Int)) (k1 : 1 ≤ k) (k8 : k ≤ 8) (hfo : oddM l.fa = false) (ha : decide (16 < l.an) = false) (hq : decide (8 < l.pn) = false)
    (hgood : (samePeer l.pa l.pi (-1) 0 = true ∧ (l.kind == 2) = false) ∨ (samePeer l.pa l.pi (-1) 0 = false ∧ oddM l.pa = false)) :
    rightL l r = (!badB k ((l.req : Int) != 0) (!eqId l.id 0) (decide (0 < l.an)) l.done (!samePeer l.pa l.pi (-1) 0) (decide (0 < l.pn)) && (!anyOdd r.av l.an && !anyOdd r.pa l.pn)) := by
  have hkm : kindM l.kind = true := by unfold kindM; exact decide_eq_true (by omega)
  have hl := link ⟨k, by omega⟩ ((l.req : Int) != 0) (!eqId l.id 0) (decide (0 < l.an)) l.done (!samePeer l.pa l.pi (-1) 0) (decide (0 < l.pn))
  rw [← hk] at hl
  unfold rightL
  rw [hl, hkm, hfo, ha, hq]
  unfold isB
  rcases hgood with ⟨h1, h2⟩ | ⟨h1, h2⟩
  · rw [h1, h2]; simp
  · rw [h1, h2]; simp
theorem eqId_PP (p q : Nat) : eqId p q = true ↔ p % PP = q % PP := by
  rw [eqId_iff]
  refine ⟨fun h => ?_, fun h j hj => ?_⟩
  · rw [← numOf_PP (p := p) (f := dig p) fun _ _ => rfl]
    exact numOf_PP (p := q) fun j hj => h j hj
  · rw [← dig_mod p hj, h, dig_mod q hj]
theorem PP_pos : 0 < PP := by unfold PP; decide +kernel
/-- A letter's parts, its places reduced. -/
def laOf (l : Let) (r : Rows5) : LA := ⟨l.kind.toNat, l.fa.toNat, l.fi % PP, l.req, l.id % PP, (List.range l.an).map fun i => (r.av i).toNat, l.done, l.pa, l.pi % PP, (List.range l.pn).map fun i => ((r.pa i).toNat, r.pp i % PP)⟩
theorem odd_no {a : Int} (h : oddM a = false) : 0 ≤ a ∧ a ≤ 999 := by unfold oddM at h; have := of_decide_eq_false h; omega
theorem any_no {z : Nat → Int} {n i : Nat} (h : anyOdd z n = false) (hi : i < n) : 0 ≤ z i ∧ z i ≤ 999 := by
  refine odd_no ?_
  cases hq : oddM (z i) with
  | false => rfl
  | true => rw [anyOdd_true hi hq] at h; cases h
/-- What holds of a letter that is right. -/
structure Good (l : Let) (r : Rows5) : Prop where
  (k1 : 1 ≤ l.kind) (k8 : l.kind ≤ 8) (fa : 0 ≤ l.fa ∧ l.fa ≤ 999) (an : l.an ≤ 16) (pn : l.pn ≤ 8) (pe : samePeer l.pa l.pi (-1) 0 = true ∨ (samePeer l.pa l.pi (-1) 0 = false ∧ 0 ≤ l.pa ∧ l.pa ≤ 999)) (hk : samePeer l.pa l.pi (-1) 0 = true → (l.kind == 2) = false)
  (av : ∀ i, i < l.an → 0 ≤ r.av i ∧ r.av i ≤ 999) (ps : ∀ i, i < l.pn → 0 ≤ r.pa i ∧ r.pa i ≤ 999)
  (h0 : hasB l.kind.toNat 0 = false → l.req = 0) (h1 : hasB l.kind.toNat 1 = false → l.id % PP = 0) (h2 : hasB l.kind.toNat 2 = false → l.an = 0) (h3 : hasB l.kind.toNat 3 = false → l.done = false) (h4 : hasB l.kind.toNat 4 = false → samePeer l.pa l.pi (-1) 0 = true) (h5 : hasB l.kind.toNat 5 = false → l.pn = 0)
theorem good_of {l : Let} {r : Rows5} (h : rightL l r = true) : Good l r := by
  have h' := h
  unfold rightL isB at h
  simp only [Bool.and_eq_true, Bool.not_eq_true', Bool.and_eq_false_iff] at h
  obtain ⟨a1, a2, a3, a4, a5, a6, a7, a8, a9⟩ := h
  have hk : 1 ≤ l.kind ∧ l.kind ≤ 8 := by unfold kindM at a1; simpa using a1
  obtain ⟨k, hkk⟩ : ∃ k : Nat, l.kind = (k : Int) := ⟨l.kind.toNat, by omega⟩
  have hl := link ⟨k, by omega⟩ ((l.req : Int) != 0) (!eqId l.id 0) (decide (0 < l.an)) l.done (!samePeer l.pa l.pi (-1) 0) (decide (0 < l.pn))
  rw [← hkk, a2] at hl
  have hb : badB k ((l.req : Int) != 0) (!eqId l.id 0) (decide (0 < l.an)) l.done (!samePeer l.pa l.pi (-1) 0) (decide (0 < l.pn)) = false := hl.symm
  unfold badB at hb
  simp only [Bool.or_eq_false_iff, Bool.and_eq_false_iff, Bool.not_eq_false'] at hb
  obtain ⟨c0, c1, c2, c3, c4, c5⟩ := hb
  have hkn : l.kind.toNat = k := by omega
  rw [decide_eq_false_iff_not] at a4 a5
  have fl : ∀ {j : Nat} {b : Bool}, b = false ∨ hasB k j = true → hasB k j = false → b = false := fun h e => h.resolve_right (by rw [e]; decide)
  have hpe : samePeer l.pa l.pi (-1) 0 = true ∨ (samePeer l.pa l.pi (-1) 0 = false ∧ 0 ≤ l.pa ∧ l.pa ≤ 999) := by
    cases hs : samePeer l.pa l.pi (-1) 0 with
    | true => exact .inl rfl
    | false =>
      rw [hs] at a7
      exact .inr ⟨rfl, odd_no (by simpa using a7)⟩
  refine ⟨hk.1, hk.2, odd_no a3, by omega, by omega, hpe, fun hs => ?_, fun i hi => any_no a8 hi, fun i hi => any_no a9 hi, ?_, ?_, ?_, ?_, ?_, ?_⟩
  · rw [hs] at a6
    simpa using a6
  · rw [hkn]; intro e
    have := fl c0 e
    simp at this
    omega
  · rw [hkn]; intro e
    have := c1.resolve_right (by rw [e]; decide)
    rw [eqId_PP] at this
    rw [this, Nat.zero_mod]
  · rw [hkn]; intro e
    have := of_decide_eq_false (fl c2 e)
    omega
  · rw [hkn]; intro e
    exact fl c3 e
  · rw [hkn]; intro e
    exact c4.resolve_right (by rw [e]; decide)
  · rw [hkn]; intro e
    have := of_decide_eq_false (fl c5 e)
    omega
theorem same_none {a : Int} {p : Nat} : samePeer a p (-1) 0 = true ↔ a = -1 ∧ p % PP = 0 := by
  unfold samePeer
  rw [Bool.and_eq_true, beq_iff_eq, eqId_PP, Nat.zero_mod]
theorem good_ok {l : Let} {r : Rows5} (h : Good l r) (hreq : l.req < 2 ^ 64) : okA (laOf l r) := by
  have hmp : ∀ p, p % PP < PP := fun p => Nat.mod_lt _ PP_pos
  have k1 := h.k1
  have k8 := h.k8
  have hfa := h.fa
  refine ⟨by show 1 ≤ l.kind.toNat; omega, by show l.kind.toNat ≤ 8; omega, by show l.fa.toNat ≤ 999; omega, hmp _, hreq, hmp _, by show ((List.range l.an).map _).length ≤ 16; rw [List.length_map, List.length_range]; exact h.an, fun x hx => ?_, ?_, hmp _,
    by show ((List.range l.pn).map _).length ≤ 8; rw [List.length_map, List.length_range]; exact h.pn, fun x hx => ?_, h.h0, h.h1, fun e => ?_, h.h3, fun e => (same_none.1 (h.h4 e)).1, fun e => ?_, fun e => ?_⟩
  · obtain ⟨i, hi, rfl⟩ := List.mem_map.1 hx
    have := h.av i (List.mem_range.1 hi)
    omega
  · rcases h.pe with e | ⟨_, e⟩
    · exact .inl (same_none.1 e)
    · exact .inr e
  · obtain ⟨i, hi, rfl⟩ := List.mem_map.1 hx
    have := h.ps i (List.mem_range.1 hi)
    exact ⟨by show (r.pa i).toNat ≤ 999; omega, hmp _⟩
  · show (List.range l.an).map _ = []
    rw [h.h2 e]; rfl
  · show (List.range l.pn).map _ = []
    rw [h.h5 e]; rfl
  · intro hpa
    have hpa' : l.pa = -1 := hpa
    rcases h.pe with e2 | ⟨_, e2, _⟩
    · have := h.hk e2
      rw [beq_eq_false_iff_ne] at this
      have e' : l.kind.toNat = 2 := e
      omega
    · omega
end Go.Proofs.Ytijkmbebfodhdaa

/- (LetYP) -/
namespace Go.Proofs.Ytijkmbebfodhdaa
open Go.RowKit
set_option linter.unusedSimpArgs false
set_option linter.unusedVariables false
set_option maxHeartbeats 1000000
set_option maxRecDepth 20000
attribute [local irreducible] wpQuiet wpList wpAnyH Calls
theorem numB_le {v : Nat} (hv : v < 2 ^ 64) : (numB v).size ≤ 9 := by have := nB_8 v hv; rw [numB_size]; omega
theorem prB_le {q : Nat × Nat} (hv : q.1 < 2 ^ 64) : (prB q).size ≤ 29 := by unfold prB; rw [ByteArray.size_append, plcB_size]; have := numB_le hv; omega
theorem manyL_le {α : Type} {enc : α → ByteArray} {c : Nat} : ∀ (l : List α), (∀ x ∈ l, (enc x).size ≤ c) → (manyL enc l).size ≤ l.length * c
  | [], _ => by show ByteArray.empty.size ≤ _; exact Nat.zero_le _
  | x :: l, h => by
    show (enc x ++ manyL enc l).size ≤ _
    have h1 := manyL_le l fun y hy => h y (List.mem_cons_of_mem _ hy)
    have h2 := h x (List.mem_cons_self ..)
    rw [ByteArray.size_append, List.length_cons, Nat.add_mul, Nat.one_mul]
    omega
theorem wnum (b : Nat) (s : ByteArray) (v : Nat) (hv : v < 2 ^ 64) (hs : s.size < 2 ^ 60) : TakesW 59 #[.pointer (some ⟨b, 0, none⟩), .int .u64 (v : Int)] b s (.tuple #[]) (s ++ numB v) :=
  wNumber_c b s _ _ (putNumber_c s v hv (by omega))
theorem wpeer (b : Nat) (s : ByteArray) (a : Int) (p : Nat) (ha : 0 ≤ a ∧ a ≤ 999) (hs : s.size < 2 ^ 60) : TakesW 60 #[.pointer (some ⟨b, 0, none⟩), peerV a p] b s (.tuple #[]) (s ++ prB (a.toNat, p % PP)) := by
  have hv : a.toNat < 2 ^ 64 := by omega
  have h9 := numB_le hv
  have e : s ++ prB (a.toNat, p % PP) = (s ++ numB a.toNat) ++ bytesB 20 (dig p) := by
    rw [ByteArray.append_assoc]
    unfold prB
    rw [plcB_mod]
    rfl
  rw [e]
  exact wPeer_c b s _ _ a p (a.toNat : Int) (by rw [Int.toNat_of_nonneg ha.1]; exact wrap_u64 (by omega) (by omega)) (wnum b s _ hv hs) (putPlace_c _ p (by rw [ByteArray.size_append]; omega))
theorem optB_true (c : ByteArray) : optB true c = c := rfl
theorem optB_false (c : ByteArray) : optB false c = ByteArray.empty := rfl
theorem snoc_num (s c : ByteArray) (z : Nat → Int) (i : Nat) : s ++ (c ++ manyL numB ((List.range (i + 1)).map fun i => (z i).toNat)) = s ++ (c ++ manyL numB ((List.range i).map fun i => (z i).toNat)) ++ numB (z i).toNat := by
  rw [List.range_succ, List.map_append, List.map_singleton, manyL_snoc, ByteArray.append_assoc, ByteArray.append_assoc]
theorem snoc_peer (s c : ByteArray) (z : Nat → Int) (p : Nat → Nat) (i : Nat) : s ++ (c ++ manyL prB ((List.range (i + 1)).map fun i => ((z i).toNat, p i % PP))) = s ++ (c ++ manyL prB ((List.range i).map fun i => ((z i).toNat, p i % PP))) ++ prB ((z i).toNat, p i % PP) := by
  rw [List.range_succ, List.map_append, List.map_singleton, manyL_snoc, ByteArray.append_assoc, ByteArray.append_assoc]
theorem nil_num (s c : ByteArray) (z : Nat → Int) : s ++ (c ++ manyL numB ((List.range 0).map fun i => (z i).toNat)) = s ++ c := by
  show s ++ (c ++ ByteArray.empty) = _
  rw [ByteArray.append_empty]
theorem nil_peer (s c : ByteArray) (z : Nat → Int) (p : Nat → Nat) : s ++ (c ++ manyL prB ((List.range 0).map fun i => ((z i).toNat, p i % PP))) = s ++ c := by
  show s ++ (c ++ ByteArray.empty) = _
  rw [ByteArray.append_empty]
theorem optB_le {f : Bool} {c : ByteArray} {n : Nat} (h : c.size ≤ n) : (optB f c).size ≤ n := by
  cases f with
  | true => exact h
  | false => exact Nat.zero_le _
theorem app_le {a b : ByteArray} {n m : Nat} (ha : a.size ≤ n) (hb : b.size ≤ m) : (a ++ b).size ≤ n + m := by rw [ByteArray.size_append]; omega
/-- The beginnings of a letter's bytes. -/
structure Seg (l : Let) (r : Rows5) (s1 s2 s3 s4 s5 s6 s7 s8 : ByteArray) (nn : Bool) : Prop where
  (e1 : s1 = numB l.kind.toNat) (e2 : s2 = s1 ++ prB (l.fa.toNat, l.fi % PP)) (e3 : s3 = s2 ++ optB (hasB l.kind.toNat 0) (numB l.req)) (e4 : s4 = s3 ++ optB (hasB l.kind.toNat 1) (plcB (l.id % PP)))
  (e5 : s5 = s4 ++ optB (hasB l.kind.toNat 2) (numB l.an ++ manyL numB ((List.range l.an).map fun i => (r.av i).toNat))) (e6 : s6 = s5 ++ optB (hasB l.kind.toNat 3) (numB (if l.done then 1 else 0)))
  (e7 : s7 = s6 ++ optB (hasB l.kind.toNat 4) (numB (if nn then 0 else 1)) ++ optB (!nn) (prB (l.pa.toNat, l.pi % PP))) (e8 : s8 = s7 ++ optB (hasB l.kind.toNat 5) (numB l.pn ++ manyL prB ((List.range l.pn).map fun i => ((r.pa i).toNat, r.pp i % PP))))
  (z1 : s1.size ≤ 9) (z2 : s2.size ≤ 38) (z3 : s3.size ≤ 47) (z4 : s4.size ≤ 67) (z5 : s5.size ≤ 300) (z6 : s6.size ≤ 309) (z7 : s7.size ≤ 400) (z8 : s8.size ≤ 800) (hn : nn = decide (l.pa = -1)) (ha : nn = false → 0 ≤ l.pa ∧ l.pa ≤ 999) (hnn : samePeer l.pa l.pi (-1) 0 = nn)
  (h4 : hasB l.kind.toNat 4 = false → nn = true) (hs : s8 = putA (laOf l r))
theorem seg_of {l : Let} {r : Rows5} (h : Good l r) (hreq : l.req < 2 ^ 64) : ∃ s1 s2 s3 s4 s5 s6 s7 s8 nn, Seg l r s1 s2 s3 s4 s5 s6 s7 s8 nn := by
  have k8 := h.k8
  have hfa := h.fa
  have han := h.an
  have hpn := h.pn
  have hnn : samePeer l.pa l.pi (-1) 0 = decide (l.pa = -1) := by
    rcases h.pe with e | ⟨e, e1, _⟩
    · rw [e, (same_none.1 e).1]; rfl
    · rw [e, decide_eq_false (by omega)]
  have y1 : (numB l.kind.toNat).size ≤ 9 := numB_le (by omega)
  have y2 : (prB (l.fa.toNat, l.fi % PP)).size ≤ 29 := prB_le (by show l.fa.toNat < _; omega)
  have y3 : (optB (hasB l.kind.toNat 0) (numB l.req)).size ≤ 9 := optB_le (numB_le hreq)
  have y4 : (optB (hasB l.kind.toNat 1) (plcB (l.id % PP))).size ≤ 20 := optB_le (by rw [plcB_size]; omega)
  have y5 : (optB (hasB l.kind.toNat 2) (numB l.an ++ manyL numB ((List.range l.an).map fun i => (r.av i).toNat))).size ≤ 153 := by
    refine optB_le ?_
    rw [ByteArray.size_append]
    have a1 : (numB l.an).size ≤ 9 := numB_le (by omega)
    have a2 := manyL_le (enc := numB) (c := 9) ((List.range l.an).map fun i => (r.av i).toNat) fun x hx => by
      obtain ⟨i, hi, rfl⟩ := List.mem_map.1 hx
      have := h.av i (List.mem_range.1 hi)
      exact numB_le (by omega)
    rw [List.length_map, List.length_range] at a2
    omega
  have y6 : (optB (hasB l.kind.toNat 3) (numB (if l.done then 1 else 0))).size ≤ 9 := optB_le (numB_le (by split <;> omega))
  have y7 : (optB (hasB l.kind.toNat 4) (numB (if decide (l.pa = -1) then 0 else 1))).size ≤ 9 := optB_le (numB_le (by split <;> omega))
  have y8 : (optB (!decide (l.pa = -1)) (prB (l.pa.toNat, l.pi % PP))).size ≤ 29 := by
    rcases h.pe with e | ⟨e, e1, e2⟩
    · rw [decide_eq_true (same_none.1 e).1]; exact Nat.zero_le _
    · exact optB_le (prB_le (by show l.pa.toNat < _; omega))
  have y9 : (optB (hasB l.kind.toNat 5) (numB l.pn ++ manyL prB ((List.range l.pn).map fun i => ((r.pa i).toNat, r.pp i % PP)))).size ≤ 241 := by
    refine optB_le ?_
    rw [ByteArray.size_append]
    have a1 : (numB l.pn).size ≤ 9 := numB_le (by omega)
    have a2 := manyL_le (enc := prB) (c := 29) ((List.range l.pn).map fun i => ((r.pa i).toNat, r.pp i % PP)) fun x hx => by
      obtain ⟨i, hi, rfl⟩ := List.mem_map.1 hx
      have := h.ps i (List.mem_range.1 hi)
      exact prB_le (by show (r.pa i).toNat < _; omega)
    rw [List.length_map, List.length_range] at a2
    omega
  have z2 := app_le y1 y2
  have z3 := app_le z2 y3
  have z4 := app_le z3 y4
  have z5 := app_le z4 y5
  have z6 := app_le z5 y6
  have z7 := app_le (app_le z6 y7) y8
  have z8 := app_le z7 y9
  refine ⟨_, _, _, _, _, _, _, _, decide (l.pa = -1), rfl, rfl, rfl, rfl, rfl, rfl, rfl, rfl, y1, z2, Nat.le_trans z3 (by omega), Nat.le_trans z4 (by omega), Nat.le_trans z5 (by omega), Nat.le_trans z6 (by omega), Nat.le_trans z7 (by omega), Nat.le_trans z8 (by omega), rfl, fun e => ?_, hnn, fun e => ?_, ?_⟩
  · rcases h.pe with e' | ⟨_, e1⟩
    · rw [decide_eq_true (same_none.1 e').1] at e; cases e
    · exact e1
  · rw [← hnn]; exact h.h4 e
  · unfold putA laOf
    dsimp only
    have hd : decide (l.pa ≠ -1) = !decide (l.pa = -1) := by by_cases e : l.pa = -1 <;> simp [e]
    have hi : (if l.pa = -1 then 0 else 1) = (if decide (l.pa = -1) = true then 0 else 1) := by by_cases e : l.pa = -1 <;> simp [e]
    rw [hd, hi, List.length_map, List.length_range, List.length_map, List.length_range]
    simp only [ByteArray.append_assoc]
theorem hasB_at {l : Let} (h1 : 0 ≤ l.kind) (j : Nat) (x : Int) (hx : ((2 ^ j : Nat) : Int) = x) : (bits .and .i64 ((partsM l.kind : Nat) : Int) x != 0) = hasB l.kind.toNat j := by
  unfold hasB
  rw [Int.toNat_of_nonneg h1, hx]
theorem lput_yes {l : Let} {r : Rows5} (hreq : l.req < 2 ^ 64) (h : rightL l r = true) (w : World) (hl : LetAt w l r) :
    Calls Try.prog 36 #[letV l] w fun e w' => e = .returned (.tuple #[.string (putA (laOf l r)), .int .i64 0]) ∧ Ext w w' := by
  have g := good_of h
  have k1 := g.k1
  have k8 := g.k8
  have han := g.an
  have hpn := g.pn
  obtain ⟨s1, s2, s3, s4, s5, s6, s7, s8, nn, S⟩ := seg_of g hreq
  rw [← S.hs]
  have hpt := parts_c l.kind
  rw [show kindM l.kind = true by unfold kindM; exact decide_eq_true ⟨k1, k8⟩] at hpt
  have hat := fun j x hx => hasB_at (l := l) (by omega) j x hx
  have z1 := S.z1
  have z2 := S.z2
  have z3 := S.z3
  have z4 := S.z4
  have z5 := S.z5
  have z6 := S.z6
  have z7 := S.z7
  have z8 := S.z8
  have tf : ∀ {b : Bool}, b = true → b = false → False := fun h1 h2 => by rw [h1] at h2; cases h2
  refine put_walk l r ((partsM l.kind : Nat) : Int) (hasB l.kind.toNat 0) (hasB l.kind.toNat 1) (hasB l.kind.toNat 2) (hasB l.kind.toNat 3) (hasB l.kind.toNat 4) (hasB l.kind.toNat 5) nn (l.kind.toNat : Int) s1 s2 s3 s4 s5 s6 s7 s8 (s6 ++ numB (if nn then 0 else 1))
    (fun i => s4 ++ (numB l.an ++ manyL numB ((List.range i).map fun i => (r.av i).toNat))) (fun i => s7 ++ (numB l.pn ++ manyL prB ((List.range i).map fun i => ((r.pa i).toNat, r.pp i % PP)))) (fun i => (((r.av i).toNat : Nat) : Int)) (by omega) (by omega)
    (fun w hl => by rw [← h]; exact lis_c l r (by omega) (by omega) w hl) hpt (hat 0 1 rfl) (hat 1 2 rfl) (hat 2 4 rfl) (hat 3 8 rfl) (hat 4 16 rfl) (hat 5 32 rfl)
    (by rw [Int.toNat_of_nonneg (by omega)]; exact wrap_u64 (by omega) (by omega)) ?_ ?_ ?_ ?_ ?_ ?_ ?_ ?_ ?_ ?_ ?_ ?_ S.hnn ?_ ?_ ?_ ?_ ?_ ?_ ?_ ?_ w hl
  · intro b
    have := wnum b { data := #[] } l.kind.toNat (by omega) (by decide)
    rw [show ({ data := #[] } : ByteArray) ++ numB l.kind.toNat = s1 from by rw [S.e1]; exact ByteArray.empty_append] at this
    exact this
  · intro b
    rw [S.e2]
    exact wpeer b s1 l.fa l.fi g.fa (by omega)
  · intro e b
    rw [S.e3, e, optB_true]
    exact wnum b s2 l.req hreq (by omega)
  · intro e
    rw [S.e3, e, optB_false, ByteArray.append_empty]
  · intro e
    rw [S.e4, e, optB_true, plcB_mod]
    exact putPlace_c s3 l.id (by omega)
  · intro e
    rw [S.e4, e, optB_false, ByteArray.append_empty]
  · intro e b
    show TakesW _ _ b s4 _ (s4 ++ (numB l.an ++ manyL numB ((List.range 0).map fun i => (r.av i).toNat)))
    rw [nil_num]
    exact wnum b s4 l.an (by omega) (by omega)
  · intro e b i hi
    have hv := g.av i hi
    refine ⟨by rw [Int.toNat_of_nonneg hv.1]; exact wrap_u64 (by omega) (by omega), ?_⟩
    show TakesW _ _ b (s4 ++ (numB l.an ++ manyL numB ((List.range i).map fun i => (r.av i).toNat))) _ (s4 ++ (numB l.an ++ manyL numB ((List.range (i + 1)).map fun i => (r.av i).toNat)))
    rw [snoc_num]
    refine wnum b _ _ (by omega) ?_
    have a1 : (numB l.an).size ≤ 9 := numB_le (by omega)
    have a2 := manyL_le (enc := numB) (c := 9) ((List.range i).map fun i => (r.av i).toNat) fun x hx => by
      obtain ⟨j, hj, rfl⟩ := List.mem_map.1 hx
      have := g.av j (by have := List.mem_range.1 hj; omega)
      exact numB_le (by omega)
    rw [List.length_map, List.length_range] at a2
    rw [ByteArray.size_append, ByteArray.size_append]
    omega
  · intro e
    show s4 ++ _ = s5
    rw [S.e5, e, optB_true]
  · intro e
    rw [S.e5, e, optB_false, ByteArray.append_empty]
  · intro e b
    refine wFlag_c b s5 s6 l.done ?_
    rw [S.e6, e, optB_true]
    cases l.done with
    | true => exact wnum b s5 1 (by omega) (by omega)
    | false => exact wnum b s5 0 (by omega) (by omega)
  · intro e
    rw [S.e6, e, optB_false, ByteArray.append_empty]
  · intro e b
    refine wFlag_c b s6 _ (!nn) ?_
    cases nn with
    | true => exact wnum b s6 0 (by omega) (by omega)
    | false => exact wnum b s6 1 (by omega) (by omega)
  · intro e en b
    have hp := S.ha en
    rw [S.e7, e, en, optB_true, Bool.not_false, optB_true]
    refine wpeer b _ l.pa l.pi hp ?_
    have a1 : (numB (if false = true then 0 else 1)).size ≤ 9 := numB_le (by decide)
    rw [ByteArray.size_append]
    omega
  · intro e en
    rw [S.e7, e, en, optB_true, Bool.not_true, optB_false, ByteArray.append_empty]
  · intro e
    rw [S.e7, e, S.h4 e, optB_false, Bool.not_true, optB_false, ByteArray.append_empty, ByteArray.append_empty]
  · intro e b
    show TakesW _ _ b s7 _ (s7 ++ (numB l.pn ++ manyL prB ((List.range 0).map fun i => ((r.pa i).toNat, r.pp i % PP))))
    rw [nil_peer]
    exact wnum b s7 l.pn (by omega) (by omega)
  · intro e b i hi
    have hv := g.ps i hi
    show TakesW _ _ b (s7 ++ (numB l.pn ++ manyL prB ((List.range i).map fun i => ((r.pa i).toNat, r.pp i % PP)))) _ (s7 ++ (numB l.pn ++ manyL prB ((List.range (i + 1)).map fun i => ((r.pa i).toNat, r.pp i % PP))))
    rw [snoc_peer]
    refine wpeer b _ _ _ hv ?_
    have a1 : (numB l.pn).size ≤ 9 := numB_le (by omega)
    have a2 := manyL_le (enc := prB) (c := 29) ((List.range i).map fun i => ((r.pa i).toNat, r.pp i % PP)) fun x hx => by
      obtain ⟨j, hj, rfl⟩ := List.mem_map.1 hx
      have := g.ps j (by have := List.mem_range.1 hj; omega)
      exact prB_le (by show (r.pa j).toNat < _; omega)
    rw [List.length_map, List.length_range] at a2
    rw [ByteArray.size_append, ByteArray.size_append]
    omega
  · intro e
    show s7 ++ _ = s8
    rw [S.e8, e, optB_true]
  · intro e
    rw [S.e8, e, optB_false, ByteArray.append_empty]
theorem lput_no {l : Let} {r : Rows5} (hn : l.an < 2 ^ 62) (hp : l.pn < 2 ^ 62) (h : rightL l r = false) (w : World) (hl : LetAt w l r) :
    Calls Try.prog 36 #[letV l] w fun e w' => e = .returned (.tuple #[.string { data := #[] }, .int .i64 1]) ∧ Ext w w' :=
  put_no l r (fun w hl => by rw [← h]; exact lis_c l r hn hp w hl) w hl
end Go.Proofs.Ytijkmbebfodhdaa

/- (LetZ) -/
namespace Go.Proofs.Ytijkmbebfodhdaa
open Go.RowKit
set_option linter.unusedSimpArgs false
set_option linter.unusedVariables false
set_option maxHeartbeats 1000000
set_option maxRecDepth 20000
attribute [local irreducible] wpQuiet wpList wpAnyH Calls
theorem map_getD {α β : Type} (f : α → β) (d : α) (l : List α) : (List.range l.length).map (fun i => f (l.getD i d)) = l.map f := by
  apply List.ext_getElem?
  intro i
  rw [List.getElem?_map, List.getElem?_map]
  by_cases h : i < l.length
  · have e : l.getD i d = l[i] := by rw [List.getD_eq_getElem?_getD, List.getElem?_eq_getElem h]; rfl
    rw [List.getElem?_range h, List.getElem?_eq_getElem h, Option.map_some, e, Option.map_some]
  · rw [List.getElem?_eq_none (by simp; omega), List.getElem?_eq_none (by omega)]; rfl
theorem laOf_got {S : List (Nat × Obj)} {m : Let} {A : LA} (h : IsL S m A) (ok : okA A) : laOf m (rowsA A) = A := by
  have e1 : (List.range m.an).map (fun i => (((A.av.getD i 0 : Nat) : Int)).toNat) = A.av := by
    rw [h.an]
    have := map_getD (fun x : Nat => x) 0 A.av
    simpa using this
  have e2 : (List.range m.pn).map (fun i => ((((A.ps.getD i (0, 0)).1 : Nat) : Int).toNat, (A.ps.getD i (0, 0)).2 % PP)) = A.ps := by
    rw [h.pn]
    have := map_getD (fun x : Nat × Nat => (((x.1 : Nat) : Int).toNat, x.2 % PP)) (0, 0) A.ps
    rw [this]
    conv => rhs; rw [← List.map_id A.ps]
    refine List.map_congr_left fun x hx => ?_
    rw [Nat.mod_eq_of_lt (ok.ps x hx).2, Int.toNat_natCast]
    rfl
  unfold laOf rowsA
  dsimp only
  rw [e1, e2, h.kind, h.fa, h.fi, h.req, h.id, h.done, h.pa, h.pi, Nat.mod_eq_of_lt ok.fi, Nat.mod_eq_of_lt ok.id, Nat.mod_eq_of_lt ok.pi, Int.toNat_natCast, Int.toNat_natCast]
theorem odd_false {a : Int} (h : 0 ≤ a ∧ a ≤ 999) : oddM a = false := by unfold oddM; exact decide_eq_false (by omega)
theorem right_got {S : List (Nat × Obj)} {m : Let} {A : LA} (h : IsL S m A) (ok : okA A) : rightL m (rowsA A) = true := by
  have hav : anyOdd (rowsA A).av m.an = false := anyOdd_false fun i hi => by
    have hi' : i < A.av.length := by rw [← h.an]; exact hi
    refine odd_false ?_
    have e : A.av.getD i 0 = A.av[i] := by rw [List.getD_eq_getElem?_getD, List.getElem?_eq_getElem hi']; rfl
    have := ok.av _ (List.getElem_mem hi')
    show 0 ≤ ((A.av.getD i 0 : Nat) : Int) ∧ ((A.av.getD i 0 : Nat) : Int) ≤ 999
    rw [e]
    omega
  have hps : anyOdd (rowsA A).pa m.pn = false := anyOdd_false fun i hi => by
    have hi' : i < A.ps.length := by rw [← h.pn]; exact hi
    refine odd_false ?_
    have e : A.ps.getD i (0, 0) = A.ps[i] := by rw [List.getD_eq_getElem?_getD, List.getElem?_eq_getElem hi']; rfl
    have := (ok.ps _ (List.getElem_mem hi')).1
    show 0 ≤ (((A.ps.getD i (0, 0)).1 : Nat) : Int) ∧ (((A.ps.getD i (0, 0)).1 : Nat) : Int) ≤ 999
    rw [e]
    omega
  have k1 := ok.k1
  have k8 := ok.k8
  have hfa : oddM m.fa = false := odd_false (by rw [h.fa]; have := ok.fa; omega)
  have hsp : samePeer m.pa m.pi (-1) 0 = decide (A.pa = -1) := by
    rw [h.pa, h.pi]
    by_cases e : A.pa = -1
    · rw [decide_eq_true e]
      rcases ok.pe with ⟨_, e2⟩ | ⟨e1, _⟩
      · exact same_none.2 ⟨e, by rw [e2, Nat.zero_mod]⟩
      · omega
    · rw [decide_eq_false e]
      cases hq : samePeer A.pa A.pi (-1) 0 with
      | false => rfl
      | true => exact (e (same_none.1 hq).1).elim
  have hgood : (samePeer m.pa m.pi (-1) 0 = true ∧ (m.kind == 2) = false) ∨ (samePeer m.pa m.pi (-1) 0 = false ∧ oddM m.pa = false) := by
    rw [hsp]
    by_cases e : A.pa = -1
    · refine .inl ⟨decide_eq_true e, ?_⟩
      rw [h.kind, beq_eq_false_iff_ne]
      intro e2
      exact ok.hk (by omega) e
    · refine .inr ⟨decide_eq_false e, odd_false ?_⟩
      rw [h.pa]
      rcases ok.pe with ⟨e1, _⟩ | e1
      · exact (e e1).elim
      · exact e1
  rw [right_late h.kind k1 k8 hfa (decide_eq_false (by have := ok.an; rw [h.an]; omega)) (decide_eq_false (by have := ok.pn; rw [h.pn]; omega)) hgood, hav, hps]
  have fl : ∀ {b : Bool} {j : Nat}, (hasB A.kind j = false → b = false) → (b && !hasB A.kind j) = false := fun {b j} hb => by
    cases hj : hasB A.kind j with
    | true => simp
    | false => rw [hb hj]; rfl
  have hb : badB A.kind ((m.req : Int) != 0) (!eqId m.id 0) (decide (0 < m.an)) m.done (!samePeer m.pa m.pi (-1) 0) (decide (0 < m.pn)) = false := by
    unfold badB
    rw [fl fun e => ?_, fl fun e => ?_, fl fun e => ?_, fl fun e => ?_, fl fun e => ?_, fl fun e => ?_]
    · rfl
    · rw [h.pn, ok.h5 e]; rfl
    · rw [hsp, ok.h4 e]; rfl
    · rw [h.done, ok.h3 e]
    · rw [h.an, ok.h2 e]; rfl
    · rw [h.id, ok.h1 e, eqId_refl]; rfl
    · rw [h.req, ok.h0 e]; rfl
  rw [hb]
  rfl
/-- Two letters are the same just if their parts are. -/
theorem same_iff {l m : Let} {r s : Rows5} (hl : Good l r) (hm : Good m s) : sameLet l r m s = true ↔ laOf l r = laOf m s := by
  have k1 := hl.k1
  have k2 := hm.k1
  have f1 := hl.fa
  have f2 := hm.fa
  unfold sameLet laOf samePeer sameInts samePeers samePeer
  simp only [Bool.and_eq_true, beq_iff_eq, eqId_PP, List.all_eq_true, List.mem_range, LA.mk.injEq]
  refine ⟨?_, ?_⟩
  · rintro ⟨h1, ⟨h2, h3⟩, h4, h5, ⟨h6, h7⟩, h8, ⟨h9, h10⟩, h11, h12⟩
    refine ⟨by rw [h1], by rw [h2], h3, by omega, h5, ?_, h8, h9, h10, ?_⟩
    · rw [h6]
      refine List.map_congr_left fun i hi => ?_
      rw [h7 i (by rw [h6]; exact List.mem_range.1 hi)]
    · rw [h11]
      refine List.map_congr_left fun i hi => ?_
      obtain ⟨a, b⟩ := h12 i (by rw [h11]; exact List.mem_range.1 hi)
      rw [a, b]
  · rintro ⟨h1, h2, h3, h4, h5, h6, h7, h8, h9, h10⟩
    have l6 : l.an = m.an := by have := congrArg List.length h6; simpa using this
    have l10 : l.pn = m.pn := by have := congrArg List.length h10; simpa using this
    refine ⟨by omega, ⟨by omega, h3⟩, by omega, h5, ⟨l6, fun i hi => ?_⟩, h7, ⟨h8, h9⟩, l10, fun i hi => ?_⟩
    · have a1 := hl.av i hi
      have a2 := hm.av i (by omega)
      have := congrArg (fun x => x[i]?) h6
      simp only [List.getElem?_map, List.getElem?_range hi, List.getElem?_range (show i < m.an by omega), Option.map_some, Option.some.injEq] at this
      omega
    · have a1 := hl.ps i hi
      have a2 := hm.ps i (by omega)
      have := congrArg (fun x => x[i]?) h10
      simp only [List.getElem?_map, List.getElem?_range hi, List.getElem?_range (show i < m.pn by omega), Option.map_some, Option.some.injEq, Prod.mk.injEq] at this
      exact ⟨by omega, this.2⟩
end Go.Proofs.Ytijkmbebfodhdaa

/- (LetD) -/
namespace Go.Proofs.Ytijkmbebfodhdaa
open Go.RowKit
set_option linter.unusedSimpArgs false
set_option linter.unusedVariables false
set_option maxHeartbeats 2000000
set_option maxRecDepth 20000
attribute [local irreducible] wpQuiet wpList wpAnyH Calls
def let1L : Let := ⟨6, 5, 0, 7, 0, none, 0, 0, false, -1, 0, none, 0, 0⟩
def rows0 : Rows5 := ⟨fun _ => 0, fun _ => 0, fun _ => 0⟩
def LA1 : LA := ⟨6, 5, 0, 7, 0, [], false, -1, 0, []⟩
/-- The row's bytes. -/
def bytes1 : ByteArray := { data := #[1, 6, 1, 5, 0, 0, 0, 0, 0, 0, 0, 0, 0, 0, 0, 0, 0, 0, 0, 0, 0, 0, 0, 0, 1, 7] }
theorem built_p5 : Try.prog.built 60 [(0, .int .i64 5)] = some (peerC 5 0) := by
  rw [peerC_eq]
  unfold rowOf
  kernel_rfl
theorem built_l1 : Try.prog.built 63 [(0, .int .i64 6), (1, peerV 5 0), (2, .int .u64 7), (6, peerV (-1) 0)] = some (letC let1L) := by
  rw [peerV_eq, peerV_eq, peerC_eq, peerC_eq, letC_eq]
  unfold rowOf
  kernel_rfl
theorem pb5 {a : Act} {w : World} {dst : Option Tmp} {ty : TypeId} {pos : String} {aft : Array Edge} {gd : Option (Nat × Bool)} {parts : Array (Nat × Operand)} (hp : (parts.map fun (i, x) => (i, a.eval x)).toList = [(0, .int .i64 5)]) : (execOp a.eval ⟨dst, .build 60 parts, ty, pos, aft, gd⟩).run Try.prog w = .ok (.value (peerV 5 0)) w := by
  rw [peerV_eq]; exact ld_build built_p5 hp
theorem lb1 {a : Act} {w : World} {dst : Option Tmp} {ty : TypeId} {pos : String} {aft : Array Edge} {gd : Option (Nat × Bool)} {parts : Array (Nat × Operand)} (hp : (parts.map fun (i, x) => (i, a.eval x)).toList = [(0, .int .i64 6), (1, peerV 5 0), (2, .int .u64 7), (6, peerV (-1) 0)]) : (execOp a.eval ⟨dst, .build 63 parts, ty, pos, aft, gd⟩).run Try.prog w = .ok (.value (letV let1L)) w := by
  rw [letV_eq]; exact ld_build built_l1 hp
theorem lbZ {a : Act} {w : World} {dst : Option Tmp} {ty : TypeId} {pos : String} {aft : Array Edge} {gd : Option (Nat × Bool)} {parts : Array (Nat × Operand)} (hp : (parts.map fun (i, x) => (i, a.eval x)).toList = []) : (execOp a.eval ⟨dst, .build 63 parts, ty, pos, aft, gd⟩).run Try.prog w = .ok (.value (letV letZ)) w := by
  rw [letV_eq]; exact ld_build built_letZ hp
theorem right1 : rightL let1L rows0 = true := by decide +kernel
theorem atL1 (w : World) : LetAt w let1L rows0 := ⟨fun i hi => absurd hi (Nat.not_lt_zero i), fun i hi => absurd hi (Nat.not_lt_zero i)⟩
theorem rightZ : rightL letZ rows0 = false := by decide +kernel
theorem atZ (w : World) : LetAt w letZ rows0 := ⟨fun i hi => absurd hi (Nat.not_lt_zero i), fun i hi => absurd hi (Nat.not_lt_zero i)⟩
theorem la1 : laOf let1L rows0 = LA1 := by
  unfold laOf let1L LA1
  simp [Nat.zero_mod]
theorem ok1 : okA LA1 := by
  have := good_ok (good_of right1) (by decide)
  rw [la1] at this
  exact this
theorem put1 : putA LA1 = bytes1 := by
  apply ByteArray.ext
  apply Array.toList_inj.1
  decide +kernel
theorem put1_c : Says 36 #[letV let1L] (.tuple #[.string bytes1, .int .i64 0]) := fun w => by
  have := lput_yes (by decide) right1 w (atL1 w)
  rw [la1, put1] at this
  exact this
theorem putZ_c : Says 36 #[letV letZ] (.tuple #[.string { data := #[] }, .int .i64 1]) := fun w => lput_no (by decide) (by decide) rightZ w (atZ w)
theorem is1_c : Says 39 #[letV let1L] (.bool true) := fun w => by
  have := lis_c let1L rows0 (by decide) (by decide) w (atL1 w)
  rw [right1] at this
  exact this
theorem get1_c (w : World) : Calls Try.prog 41 #[.string bytes1] w fun e w' => ∃ m, e = .returned (.tuple #[letV m, .int .i64 0]) ∧ Ext w w' ∧ Says 43 #[letV let1L, letV m] (.bool true) := by
  refine (get_c bytes1 w).mono ?_
  rintro e w' ⟨m, x, S, rfl, hm, h⟩
  have hg : getA bytes1 = .ok LA1 := by rw [← put1]; exact getA_put ok1
  rcases h with ⟨A, hA, rfl, hl⟩ | ⟨hA, _⟩
  · rw [hg] at hA
    obtain rfl : LA1 = A := by simpa using hA
    refine ⟨m, rfl, hm.ext, fun w2 => ?_⟩
    have hs : sameLet let1L rows0 m (rowsA LA1) = true := (same_iff (good_of right1) (good_of (right_got hl ok1))).2 (by rw [la1, laOf_got hl ok1])
    have han : m.an = 0 := hl.an
    have hpn : m.pn = 0 := hl.pn
    have := same_c let1L m rows0 (rowsA LA1) (by decide) (by decide) w2 (atL1 w2) ⟨fun i hi => by omega, fun i hi => by omega⟩
    rw [hs] at this
    exact this
  · rw [hg] at hA; cases hA
theorem lettered_c : Says 38 #[] (.bool true) := by
  intro w
  have c1 : ({ data := #[1, 6, 1, 5] } : ByteArray) ++ { data := #[0, 0, 0, 0, 0, 0, 0, 0, 0, 0, 0, 0, 0, 0, 0, 0, 0, 0, 0, 0] } ++ { data := #[1, 7] } = bytes1 := by decide +kernel
  obtain ⟨b1, hb1⟩ : ∃ b, bytes1 = b := ⟨_, rfl⟩
  have p1 := put1_c
  have q1 := get1_c
  rw [hb1] at p1 q1 c1
  clear hb1
  go_enter Try.func38, Try.ntmps38
  have hm := Mem.refl w []
  go_wp2_with ((first | refine wpList_skip (by rfl) ?_ | (refine wlL (hm := hm) (hu := by first | exact undPeer | exact undID | exact undLetter) (hi := by (try simp only [rowOf_size, idC_size, peerC_size, letC_size]); first | exact sizePeer | exact sizeID | exact sizeLetter) (h := ?_); (try simp only [Act.put, k1, k2, k3]); (try simp only [← peerV_eq, ← idV_eq, ← letV_eq])) | refine wlLC (hm := hm) (hv := by first | exact let0 _ | exact let1 _ | exact let22 _ | exact let43 _ | exact let44 _ | exact let45 _ | exact let66 _ | rfl) (hu := by first | exact undInt | exact undU64 | exact undBool | exact undIntS | exact undPeerS | exact undStr) (h := ?_) | (refine yS (hm := hm) (hi := by (try simp only [rowOf_size, idC_size, peerC_size, letC_size]); first | exact sizePeer | exact sizeID | exact sizeLetter) (h := ?_); clear hm; intro w1 hm; (try simp only [rowOf_set, k1, k2, k3, Value.cells, Act.eval, k7, k8, k9, kA, Option.getD_some] at hm)) | (refine wlSC (hm := hm) (hi := by first | exact sizeInt | exact sizeU64 | exact sizeBool | exact sizeIntS | exact sizePeerS | exact sizeStr) (ho := by first | decide | (simp only [rowOf_size, idC_size, peerC_size, letC_size]; omega) | (simp; done)) (h := ?_); clear hm; intro w1 hm; (try simp only [rowOf_set, k1, k2, k3, Value.cells, Act.eval, k7, k8, k9, kA, Option.getD_some] at hm)) | (refine wlA (hz := by first | exact zeroPeer | exact zeroID | exact zeroLetter) (hm := hm) (h := ?_); clear hm; intro b1 w1 hm; (try simp only [rowOf_set, k1, k2, k3, Value.cells, Act.eval, k7, k8, k9, kA, Option.getD_some] at hm)) | (refine wl_box (by rfl) rfl (by first | exact peerV_cells _ _ | exact letV_cells _ | exact idV_cells _ | rfl) hm ?_; clear hm; intro b1 w1 hm) | ((with_reducible show wpList _ _ _ (⟨_, .build 60 _, _, _, _, _⟩ :: _) _ _); refine wl_op (by rfl) fun K hK => ?_; refine ow_value (pb5 (by first | rfl | simp [Act.eval])) (hK _ _ ?_); clear hK K) | ((with_reducible show wpList _ _ _ (⟨_, .build 63 #[], _, _, _, _⟩ :: _) _ _); refine wl_op (by rfl) fun K hK => ?_; refine ow_value (lbZ (by first | rfl | simp)) (hK _ _ ?_); clear hK K) | ((with_reducible show wpList _ _ _ (⟨_, .build 63 #[_, _, _, _], _, _, _, _⟩ :: _) _ _); refine wl_op (by rfl) fun K hK => ?_; refine ow_value (lb1 (by first | rfl | simp [Act.eval])) (hK _ _ ?_); clear hK K) | (go_at_call 65; refine (refNone_c _).mono ?_; rintro e w1 ⟨rfl, hx⟩; replace hm := hm.call hx; clear hx) | (go_at_call 36; refine (p1 _).mono ?_; rintro e w1 ⟨rfl, hx⟩; replace hm := hm.call hx; clear hx) | (with_reducible first | refine stBs ?_ | refine stMs ?_ | refine stAp ?_ | refine stCo ?_)); (try simp only [k4, k5, k6, Act.put, k1, k2, k3]))
  refine (q1 _).mono ?_
  rintro e w4 ⟨m, rfl, hx, hs⟩
  replace hm := hm.call hx
  clear hx q1 p1
  go_wp2_with ((first | refine wpList_skip (by rfl) ?_ | (refine wlL (hm := hm) (hu := by first | exact undPeer | exact undID | exact undLetter) (hi := by (try simp only [rowOf_size, idC_size, peerC_size, letC_size]); first | exact sizePeer | exact sizeID | exact sizeLetter) (h := ?_); (try simp only [Act.put, k1, k2, k3]); (try simp only [← peerV_eq, ← idV_eq, ← letV_eq])) | refine wlLC (hm := hm) (hv := by first | exact let0 _ | exact let1 _ | exact let22 _ | exact let43 _ | exact let44 _ | exact let45 _ | exact let66 _ | rfl) (hu := by first | exact undInt | exact undU64 | exact undBool | exact undIntS | exact undPeerS | exact undStr) (h := ?_) | (refine yS (hm := hm) (hi := by (try simp only [rowOf_size, idC_size, peerC_size, letC_size]); first | exact sizePeer | exact sizeID | exact sizeLetter) (h := ?_); clear hm; intro w1 hm; (try simp only [rowOf_set, k1, k2, k3, Value.cells, Act.eval, k7, k8, k9, kA, Option.getD_some] at hm)) | (refine wlSC (hm := hm) (hi := by first | exact sizeInt | exact sizeU64 | exact sizeBool | exact sizeIntS | exact sizePeerS | exact sizeStr) (ho := by first | decide | (simp only [rowOf_size, idC_size, peerC_size, letC_size]; omega) | (simp; done)) (h := ?_); clear hm; intro w1 hm; (try simp only [rowOf_set, k1, k2, k3, Value.cells, Act.eval, k7, k8, k9, kA, Option.getD_some] at hm)) | (refine wlA (hz := by first | exact zeroPeer | exact zeroID | exact zeroLetter) (hm := hm) (h := ?_); clear hm; intro b1 w1 hm; (try simp only [rowOf_set, k1, k2, k3, Value.cells, Act.eval, k7, k8, k9, kA, Option.getD_some] at hm)) | (refine wl_box (by rfl) rfl (by first | exact peerV_cells _ _ | exact letV_cells _ | exact idV_cells _ | rfl) hm ?_; clear hm; intro b1 w1 hm) | ((with_reducible show wpList _ _ _ (⟨_, .build 60 _, _, _, _, _⟩ :: _) _ _); refine wl_op (by rfl) fun K hK => ?_; refine ow_value (pb5 (by first | rfl | simp [Act.eval])) (hK _ _ ?_); clear hK K) | ((with_reducible show wpList _ _ _ (⟨_, .build 63 #[], _, _, _, _⟩ :: _) _ _); refine wl_op (by rfl) fun K hK => ?_; refine ow_value (lbZ (by first | rfl | simp)) (hK _ _ ?_); clear hK K) | ((with_reducible show wpList _ _ _ (⟨_, .build 63 #[_, _, _, _], _, _, _, _⟩ :: _) _ _); refine wl_op (by rfl) fun K hK => ?_; refine ow_value (lb1 (by first | rfl | simp [Act.eval])) (hK _ _ ?_); clear hK K) | (go_at_call 36; refine (putZ_c _).mono ?_; rintro e w1 ⟨rfl, hx⟩; replace hm := hm.call hx; clear hx) | (go_at_call 43; refine (hs _).mono ?_; rintro e w1 ⟨rfl, hx⟩; replace hm := hm.call hx; clear hx) | (go_at_call 39; refine (is1_c _).mono ?_; rintro e w1 ⟨rfl, hx⟩; replace hm := hm.call hx; clear hx) | (with_reducible first | refine stBs ?_ | refine stMs ?_ | refine stAp ?_ | refine stCo ?_)); (try simp only [k4, k5, k6, Act.put, k1, k2, k3]))
  go_ret
  exact ⟨rfl, hm.ext⟩
end Go.Proofs.Ytijkmbebfodhdaa
