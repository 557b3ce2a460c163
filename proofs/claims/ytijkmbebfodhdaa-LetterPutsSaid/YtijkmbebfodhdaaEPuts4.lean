/- Texts joined by program: LetX LetT LetY LetYP LetZ LetD OpenL LetH LetW. -/
import Derived.Deep.CutRange
import Derived.Lib.SmallJoins
import Derived.Deep.Slices
import Derived.Test.YtijkmbebfodhdaaEPuts3
/- (LetX) -/
namespace Go.Proofs.Ytijkmbebfodhdaa
open Go.RowKit
set_option linter.unusedSimpArgs false
set_option linter.unusedVariables false
set_option maxHeartbeats 2000000
set_option maxRecDepth 20000
attribute [local irreducible] wpQuiet wpList wpAnyH Calls
theorem get_c (s : ByteArray) (w : World) : Calls Try.prog 41 #[.string s] w (GetR (getA s) w) := by
  obtain ⟨R, hR⟩ : ∃ R, getA s = R := ⟨_, rfl⟩
  rw [hR]
  have HR := hid hR
  clear hR
  go_enter_defers Try.func41, Try.ntmps41
  refine wp_mono (Q := GetQ R w) ?_ fun e a' w' h => get_door h
  have hm := Mem.refl w []
  have hmf : ∀ fn first cap w, (Instr.makeFunc fn first cap).run Try.prog w = .ok (.func fn first cap) w := fun _ _ _ _ => rfl
  go_wp2_with (with_reducible first | refine stAl ?_ | refine stBo ?_ | refine stLo ?_ | refine stSo ?_ | refine stBu ?_ | refine stBs ?_ | refine stMs ?_ | refine stAp ?_ | refine stCo ?_); refine Stop.go (wl_alloc (by rfl) zeroLetter rfl hm ?_); clear hm; intro lb w1 hm; simp only [Act.put, k1, k2, k3]; (try simp only [rowOf_set, set_kind, set_req, set_done, k1, k2, k3, Value.cells, Act.eval, k7, k8, k9, kA, Option.getD_some] at hm)
  go_wp2_with (with_reducible first | refine stAl ?_ | refine stBo ?_ | refine stLo ?_ | refine stSo ?_ | refine stBu ?_ | refine stBs ?_ | refine stMs ?_ | refine stAp ?_ | refine stCo ?_); refine Stop.go (wl_alloc (by rfl) zeroErr rfl hm ?_); clear hm; intro eb w2 hm; simp only [Act.put, k1, k2, k3]; (try simp only [rowOf_set, set_kind, set_req, set_done, k1, k2, k3, Value.cells, Act.eval, k7, k8, k9, kA, Option.getD_some] at hm)
  go_wp2_with (with_reducible first | refine stAl ?_ | refine stBo ?_ | refine stLo ?_ | refine stSo ?_ | refine stBu ?_ | refine stBs ?_ | refine stMs ?_ | refine stAp ?_ | refine stCo ?_)
  clear hmf
  refine (new_c s _).mono ?_
  rintro e w3 ⟨rb, rfl, hx⟩
  replace hm := Mem.callOwn (B := []) hm hx; clear hx; simp only [List.cons_append, List.nil_append] at hm
  go_wp2_with (with_reducible first | refine stAl ?_ | refine stBo ?_ | refine stLo ?_ | refine stSo ?_ | refine stBu ?_ | refine stBs ?_ | refine stMs ?_ | refine stAp ?_ | refine stCo ?_); refine Stop.go (wl_build (by rfl) (built_rdr rb) (by simp [Act.eval]) ?_); simp only [Act.put, k1, k2, k3]
  go_wp2_with (with_reducible first | refine stAl ?_ | refine stBo ?_ | refine stLo ?_ | refine stSo ?_ | refine stBu ?_ | refine stBs ?_ | refine stMs ?_ | refine stAp ?_ | refine stCo ?_); refine Stop.go (wl_alloc (by rfl) zeroRd rfl hm ?_); clear hm; intro rc w4 hm; simp only [Act.put, k1, k2, k3]; (try simp only [rowOf_set, set_kind, set_req, set_done, k1, k2, k3, Value.cells, Act.eval, k7, k8, k9, kA, Option.getD_some] at hm)
  go_wp2_with (with_reducible first | refine stAl ?_ | refine stBo ?_ | refine stLo ?_ | refine stSo ?_ | refine stBu ?_ | refine stBs ?_ | refine stMs ?_ | refine stAp ?_ | refine stCo ?_); refine Stop.go (wl_store (i := 0) (by rfl) hm rfl rfl rfl (by first | rfl | exact idV_eq _ | exact peerV_eq _ _ | exact letV_eq _) (by first | exact sizeRd | (simp only [rowOf_size, idC_size, peerC_size, letC_size]; exact sizeRd)) (by first | (simp only [rowOf_size, idC_size, peerC_size, letC_size]; done) | rfl) (by first | exact peerC_one _ _ | rfl | (simp only [List.size_toArray, List.length_cons, List.all_toArray', List.all_cons, List.all_nil, Value.oneCell', Bool.and_true, Bool.and_self]; done) | (simp [Value.oneCell']; done) | exact rowOf_one _ _ (fun _ _ => rfl) | exact idC_one _ | (exact rowOf_one _ _ (by intro i _; repeat (first | rfl | split)))) ?_); clear hm; intro w5 hm; simp only [Act.put, k1, k2, k3]; simp only [rowOf_set, set_kind, set_req, set_done, k1, k2, k3, Value.cells, Act.eval, k7, k8, k9, kA, Option.getD_some] at hm
  go_upto_region 3 with ((first | refine wpList_skip (by rfl) ?_ | (refine wlL (hm := hm) (hu := by first | exact undPeer | exact undID | exact undLetter | exact undRd) (hi := by (try simp only [rowOf_size, idC_size, peerC_size, letC_size]); first | exact sizePeer | exact sizeID | exact sizeLetter | exact sizeRd) (h := ?_); (try simp only [Act.put, k1, k2, k3]); (try simp only [← peerV_eq, ← idV_eq, ← letV_eq])) | refine wlLC (hm := hm) (hv := by first | exact let0 _ | exact let1 _ | exact let22 _ | exact let43 _ | exact let44 _ | exact let45 _ | exact let66 _ | rfl) (hu := by first | exact undInt | exact undU64 | exact undBool | exact undIntS | exact undPeerS | exact undStr | exact undRdP | exact undErr) (h := ?_) | (refine yS (hm := hm) (hi := by (try simp only [rowOf_size, idC_size, peerC_size, letC_size]); first | exact sizePeer | exact sizeID | exact sizeLetter | exact sizeRd) (h := ?_); clear hm; intro w1 hm; (try simp only [rowOf_set, set_kind, set_req, set_done, k1, k2, k3, Value.cells, Act.eval, k7, k8, k9, kA, Option.getD_some] at hm)) | (refine wlSM (by rfl) hm (by rfl) (by with_reducible first | exact at0 | exact at1 | exact at2 | exact at3) (by rfl) (by first | rfl | exact idV_eq _ | exact peerV_eq _ _ | exact letV_eq _) (by first | exact peerC_one _ _ | exact idC_one _) (by first | (rw [peerC_size]; exact sizePeer) | (rw [idC_size]; exact sizeID)) (by simp only [rowOf_size, idC_size, peerC_size, letC_size]; decide) (by first | exact mid_from _ _ _ | exact mid_peer _ _ _ | exact mid_id _ _) ?_; clear hm; intro w1 hm; simp only [k2, k3] at hm) | (refine wlSC (hm := hm) (hi := by first | exact sizeInt | exact sizeU64 | exact sizeBool | exact sizeIntS | exact sizePeerS | exact sizeStr | exact sizeRdP | exact sizeErr) (ho := by first | decide | (simp only [rowOf_size, idC_size, peerC_size, letC_size]; omega) | (simp; done)) (h := ?_); clear hm; intro w1 hm; (try simp only [rowOf_set, set_kind, set_req, set_done, k1, k2, k3, Value.cells, Act.eval, k7, k8, k9, kA, Option.getD_some] at hm)) | (refine wlA (hz := by first | exact zeroPeer | exact zeroID | exact zeroLetter | exact zeroRd | exact zeroErr) (hm := hm) (h := ?_); clear hm; intro b1 w1 hm; (try simp only [rowOf_set, set_kind, set_req, set_done, k1, k2, k3, Value.cells, Act.eval, k7, k8, k9, kA, Option.getD_some] at hm)) | (refine wl_box (by rfl) rfl (by first | exact peerV_cells _ _ | exact letV_cells _ | exact idV_cells _ | rfl) hm ?_; clear hm; intro b1 w1 hm) | (refine wl_build (by rfl) (built_rdr _) rfl ?_; (try simp only [Act.put, k1, k2, k3]); (try simp only [← peerV_eq, ← idV_eq, ← letV_eq])) | (go_at_call 23; refine (new_c _ _).mono ?_; rintro e w1 ⟨b1, rfl, hx⟩; replace hm := Mem.callOwn (B := []) hm hx; clear hx; simp only [List.cons_append, List.nil_append] at hm) | (with_reducible first | refine stBs ?_ | refine stMs ?_ | refine stAp ?_ | refine stCo ?_)); (try simp only [k4, k5, k6, Act.put, k1, k2, k3]))
  rcases hk : gN 1 8 s with x | ⟨k, s1⟩
  · obtain ⟨r, hp⟩ := gN_x hk rb (lo' := 1) (hi' := 8) rfl rfl
    have HK := hid hk
    clear hk
    go_wp2_with ((first | refine wpList_skip (by rfl) ?_ | (refine wlL (hm := hm) (hu := by first | exact undPeer | exact undID | exact undLetter | exact undRd) (hi := by (try simp only [rowOf_size, idC_size, peerC_size, letC_size]); first | exact sizePeer | exact sizeID | exact sizeLetter | exact sizeRd) (h := ?_); (try simp only [Act.put, k1, k2, k3]); (try simp only [← peerV_eq, ← idV_eq, ← letV_eq])) | refine wlLC (hm := hm) (hv := by first | exact let0 _ | exact let1 _ | exact let22 _ | exact let43 _ | exact let44 _ | exact let45 _ | exact let66 _ | rfl) (hu := by first | exact undInt | exact undU64 | exact undBool | exact undIntS | exact undPeerS | exact undStr | exact undRdP | exact undErr) (h := ?_) | (refine yS (hm := hm) (hi := by (try simp only [rowOf_size, idC_size, peerC_size, letC_size]); first | exact sizePeer | exact sizeID | exact sizeLetter | exact sizeRd) (h := ?_); clear hm; intro w1 hm; (try simp only [rowOf_set, set_kind, set_req, set_done, k1, k2, k3, Value.cells, Act.eval, k7, k8, k9, kA, Option.getD_some] at hm)) | (refine wlSM (by rfl) hm (by rfl) (by with_reducible first | exact at0 | exact at1 | exact at2 | exact at3) (by rfl) (by first | rfl | exact idV_eq _ | exact peerV_eq _ _ | exact letV_eq _) (by first | exact peerC_one _ _ | exact idC_one _) (by first | (rw [peerC_size]; exact sizePeer) | (rw [idC_size]; exact sizeID)) (by simp only [rowOf_size, idC_size, peerC_size, letC_size]; decide) (by first | exact mid_from _ _ _ | exact mid_peer _ _ _ | exact mid_id _ _) ?_; clear hm; intro w1 hm; simp only [k2, k3] at hm) | (refine wlSC (hm := hm) (hi := by first | exact sizeInt | exact sizeU64 | exact sizeBool | exact sizeIntS | exact sizePeerS | exact sizeStr | exact sizeRdP | exact sizeErr) (ho := by first | decide | (simp only [rowOf_size, idC_size, peerC_size, letC_size]; omega) | (simp; done)) (h := ?_); clear hm; intro w1 hm; (try simp only [rowOf_set, set_kind, set_req, set_done, k1, k2, k3, Value.cells, Act.eval, k7, k8, k9, kA, Option.getD_some] at hm)) | (refine wlA (hz := by first | exact zeroPeer | exact zeroID | exact zeroLetter | exact zeroRd | exact zeroErr) (hm := hm) (h := ?_); clear hm; intro b1 w1 hm; (try simp only [rowOf_set, set_kind, set_req, set_done, k1, k2, k3, Value.cells, Act.eval, k7, k8, k9, kA, Option.getD_some] at hm)) | (refine wl_box (by rfl) rfl (by first | exact peerV_cells _ _ | exact letV_cells _ | exact idV_cells _ | rfl) hm ?_; clear hm; intro b1 w1 hm) | (refine wl_build (by rfl) (built_rdr _) rfl ?_; (try simp only [Act.put, k1, k2, k3]); (try simp only [← peerV_eq, ← idV_eq, ← letV_eq])) | (go_at_call 73; refine (hp _ (hm.heap (by with_reducible first | exact at0 | exact at1 | exact at2 | exact at3))).mono ?_; rintro e w1 ⟨rfl, hx⟩; replace hm := hm.callAt (by with_reducible first | exact at0 | exact at1 | exact at2 | exact at3) hx; clear hx; simp only [k2, k3] at hm) | (with_reducible first | refine stBs ?_ | refine stMs ?_ | refine stAp ?_ | refine stCo ?_)); (try simp only [k4, k5, k6, Act.put, k1, k2, k3]))
    refine get_pan ?_ hm (letC_size _) rfl rfl rfl rfl rfl
    rw [← HR.out]
    unfold getA
    rw [HK.out]
    rfl
  · have hp := gN_c hk rb (lo' := 1) (hi' := 8) rfl rfl
    have hwk := wrap_small (show k ≤ 999 from Nat.le_trans (gN_ok hk).2.2.2.2 (by decide))
    have HK := hid hk
    clear hk
    go_upto_region 4 with ((first | refine wpList_skip (by rfl) ?_ | (refine wlL (hm := hm) (hu := by first | exact undPeer | exact undID | exact undLetter | exact undRd) (hi := by (try simp only [rowOf_size, idC_size, peerC_size, letC_size]); first | exact sizePeer | exact sizeID | exact sizeLetter | exact sizeRd) (h := ?_); (try simp only [Act.put, k1, k2, k3]); (try simp only [← peerV_eq, ← idV_eq, ← letV_eq])) | refine wlLC (hm := hm) (hv := by first | exact let0 _ | exact let1 _ | exact let22 _ | exact let43 _ | exact let44 _ | exact let45 _ | exact let66 _ | rfl) (hu := by first | exact undInt | exact undU64 | exact undBool | exact undIntS | exact undPeerS | exact undStr | exact undRdP | exact undErr) (h := ?_) | (refine yS (hm := hm) (hi := by (try simp only [rowOf_size, idC_size, peerC_size, letC_size]); first | exact sizePeer | exact sizeID | exact sizeLetter | exact sizeRd) (h := ?_); clear hm; intro w1 hm; (try simp only [rowOf_set, set_kind, set_req, set_done, k1, k2, k3, Value.cells, Act.eval, k7, k8, k9, kA, Option.getD_some] at hm)) | (refine wlSM (by rfl) hm (by rfl) (by with_reducible first | exact at0 | exact at1 | exact at2 | exact at3) (by rfl) (by first | rfl | exact idV_eq _ | exact peerV_eq _ _ | exact letV_eq _) (by first | exact peerC_one _ _ | exact idC_one _) (by first | (rw [peerC_size]; exact sizePeer) | (rw [idC_size]; exact sizeID)) (by simp only [rowOf_size, idC_size, peerC_size, letC_size]; decide) (by first | exact mid_from _ _ _ | exact mid_peer _ _ _ | exact mid_id _ _) ?_; clear hm; intro w1 hm; simp only [k2, k3] at hm) | (refine wlSC (hm := hm) (hi := by first | exact sizeInt | exact sizeU64 | exact sizeBool | exact sizeIntS | exact sizePeerS | exact sizeStr | exact sizeRdP | exact sizeErr) (ho := by first | decide | (simp only [rowOf_size, idC_size, peerC_size, letC_size]; omega) | (simp; done)) (h := ?_); clear hm; intro w1 hm; (try simp only [rowOf_set, set_kind, set_req, set_done, k1, k2, k3, Value.cells, Act.eval, k7, k8, k9, kA, Option.getD_some] at hm)) | (refine wlA (hz := by first | exact zeroPeer | exact zeroID | exact zeroLetter | exact zeroRd | exact zeroErr) (hm := hm) (h := ?_); clear hm; intro b1 w1 hm; (try simp only [rowOf_set, set_kind, set_req, set_done, k1, k2, k3, Value.cells, Act.eval, k7, k8, k9, kA, Option.getD_some] at hm)) | (refine wl_box (by rfl) rfl (by first | exact peerV_cells _ _ | exact letV_cells _ | exact idV_cells _ | rfl) hm ?_; clear hm; intro b1 w1 hm) | (refine wl_build (by rfl) (built_rdr _) rfl ?_; (try simp only [Act.put, k1, k2, k3]); (try simp only [← peerV_eq, ← idV_eq, ← letV_eq])) | (go_at_call 73; refine (hp _ (hm.heap (by with_reducible first | exact at0 | exact at1 | exact at2 | exact at3))).mono ?_; rintro e w1 ⟨rfl, hx⟩; replace hm := hm.callAt (by with_reducible first | exact at0 | exact at1 | exact at2 | exact at3) hx; clear hx; simp only [k2, k3] at hm) | (with_reducible first | refine stBs ?_ | refine stMs ?_ | refine stAp ?_ | refine stCo ?_)); (try simp only [k4, k5, k6, Act.put, k1, k2, k3]))
    rcases hf : gP s1 with x | ⟨⟨a, p⟩, s2⟩
    · obtain ⟨r, hp2⟩ := gP_x hf rb
      clear hp
      have hp := hp2
      clear hp2
      have HF := hid hf
      clear hf
      go_wp2_with ((first | refine wpList_skip (by rfl) ?_ | (refine wlL (hm := hm) (hu := by first | exact undPeer | exact undID | exact undLetter | exact undRd) (hi := by (try simp only [rowOf_size, idC_size, peerC_size, letC_size]); first | exact sizePeer | exact sizeID | exact sizeLetter | exact sizeRd) (h := ?_); (try simp only [Act.put, k1, k2, k3]); (try simp only [← peerV_eq, ← idV_eq, ← letV_eq])) | refine wlLC (hm := hm) (hv := by first | exact let0 _ | exact let1 _ | exact let22 _ | exact let43 _ | exact let44 _ | exact let45 _ | exact let66 _ | rfl) (hu := by first | exact undInt | exact undU64 | exact undBool | exact undIntS | exact undPeerS | exact undStr | exact undRdP | exact undErr) (h := ?_) | (refine yS (hm := hm) (hi := by (try simp only [rowOf_size, idC_size, peerC_size, letC_size]); first | exact sizePeer | exact sizeID | exact sizeLetter | exact sizeRd) (h := ?_); clear hm; intro w1 hm; (try simp only [rowOf_set, set_kind, set_req, set_done, k1, k2, k3, Value.cells, Act.eval, k7, k8, k9, kA, Option.getD_some] at hm)) | (refine wlSM (by rfl) hm (by rfl) (by with_reducible first | exact at0 | exact at1 | exact at2 | exact at3) (by rfl) (by first | rfl | exact idV_eq _ | exact peerV_eq _ _ | exact letV_eq _) (by first | exact peerC_one _ _ | exact idC_one _) (by first | (rw [peerC_size]; exact sizePeer) | (rw [idC_size]; exact sizeID)) (by simp only [rowOf_size, idC_size, peerC_size, letC_size]; decide) (by first | exact mid_from _ _ _ | exact mid_peer _ _ _ | exact mid_id _ _) ?_; clear hm; intro w1 hm; simp only [k2, k3] at hm) | (refine wlSC (hm := hm) (hi := by first | exact sizeInt | exact sizeU64 | exact sizeBool | exact sizeIntS | exact sizePeerS | exact sizeStr | exact sizeRdP | exact sizeErr) (ho := by first | decide | (simp only [rowOf_size, idC_size, peerC_size, letC_size]; omega) | (simp; done)) (h := ?_); clear hm; intro w1 hm; (try simp only [rowOf_set, set_kind, set_req, set_done, k1, k2, k3, Value.cells, Act.eval, k7, k8, k9, kA, Option.getD_some] at hm)) | (refine wlA (hz := by first | exact zeroPeer | exact zeroID | exact zeroLetter | exact zeroRd | exact zeroErr) (hm := hm) (h := ?_); clear hm; intro b1 w1 hm; (try simp only [rowOf_set, set_kind, set_req, set_done, k1, k2, k3, Value.cells, Act.eval, k7, k8, k9, kA, Option.getD_some] at hm)) | (refine wl_box (by rfl) rfl (by first | exact peerV_cells _ _ | exact letV_cells _ | exact idV_cells _ | rfl) hm ?_; clear hm; intro b1 w1 hm) | (refine wl_build (by rfl) (built_rdr _) rfl ?_; (try simp only [Act.put, k1, k2, k3]); (try simp only [← peerV_eq, ← idV_eq, ← letV_eq])) | (go_at_call 74; refine (hp _ (hm.heap (by with_reducible first | exact at0 | exact at1 | exact at2 | exact at3))).mono ?_; rintro e w1 ⟨rfl, hx⟩; replace hm := hm.callAt (by with_reducible first | exact at0 | exact at1 | exact at2 | exact at3) hx; clear hx; simp only [k2, k3] at hm) | (go_at_call 62; refine (none_c _).mono ?_; rintro e w1 ⟨rfl, hx⟩; replace hm := hm.call hx; clear hx) | (go_at_call 58; refine (hpt _).mono ?_; rintro e w1 ⟨rfl, hx⟩; replace hm := hm.call hx; clear hx) | (with_reducible first | refine stBs ?_ | refine stMs ?_ | refine stAp ?_ | refine stCo ?_)); (try simp only [k4, k5, k6, Act.put, k1, k2, k3]))
      refine get_pan ?_ hm (letC_size _) rfl rfl rfl rfl rfl
      rw [← HR.out]
      unfold getA
      simp only [HK.out, ok_bind, HF.out]
      rfl
    · have hp2 := gP_c hf rb
      clear hp
      have hp := hp2
      clear hp2
      have HF := hid hf
      clear hf
      obtain ⟨H, hH⟩ : ∃ H, ((partsM (k : Int) : Nat) : Int) = H := ⟨_, rfl⟩
      obtain ⟨kd, hkd⟩ : ∃ kd, kindM (k : Int) = kd := ⟨_, rfl⟩
      have hpt := parts_c (k : Int)
      rw [hH, hkd] at hpt
      obtain ⟨f0, g0⟩ : ∃ f, (bits .and .i64 H 1 != 0) = f := ⟨_, rfl⟩
      have F0 := hid (show hasB k 0 = f0 by rw [← g0, ← hH]; rfl)
      obtain ⟨f1, g1⟩ : ∃ f, (bits .and .i64 H 2 != 0) = f := ⟨_, rfl⟩
      have F1 := hid (show hasB k 1 = f1 by rw [← g1, ← hH]; rfl)
      obtain ⟨f2, g2⟩ : ∃ f, (bits .and .i64 H 4 != 0) = f := ⟨_, rfl⟩
      have F2 := hid (show hasB k 2 = f2 by rw [← g2, ← hH]; rfl)
      obtain ⟨f3, g3⟩ : ∃ f, (bits .and .i64 H 8 != 0) = f := ⟨_, rfl⟩
      have F3 := hid (show hasB k 3 = f3 by rw [← g3, ← hH]; rfl)
      obtain ⟨f4, g4⟩ : ∃ f, (bits .and .i64 H 16 != 0) = f := ⟨_, rfl⟩
      have F4 := hid (show hasB k 4 = f4 by rw [← g4, ← hH]; rfl)
      obtain ⟨f5, g5⟩ : ∃ f, (bits .and .i64 H 32 != 0) = f := ⟨_, rfl⟩
      have F5 := hid (show hasB k 5 = f5 by rw [← g5, ← hH]; rfl)
      obtain ⟨fk, gk⟩ : ∃ f, ((k : Int) == 2) = f := ⟨_, rfl⟩
      obtain ⟨lst, hlst⟩ : ∃ l, leastB k = l := ⟨_, rfl⟩
      have HL := hid hlst
      have HGK := hid gk
      clear hH hkd hlst
      go_upto_if 29 with ((first | refine wpList_skip (by rfl) ?_ | (refine wlL (hm := hm) (hu := by first | exact undPeer | exact undID | exact undLetter | exact undRd) (hi := by (try simp only [rowOf_size, idC_size, peerC_size, letC_size]); first | exact sizePeer | exact sizeID | exact sizeLetter | exact sizeRd) (h := ?_); (try simp only [Act.put, k1, k2, k3]); (try simp only [← peerV_eq, ← idV_eq, ← letV_eq])) | refine wlLC (hm := hm) (hv := by first | exact let0 _ | exact let1 _ | exact let22 _ | exact let43 _ | exact let44 _ | exact let45 _ | exact let66 _ | rfl) (hu := by first | exact undInt | exact undU64 | exact undBool | exact undIntS | exact undPeerS | exact undStr | exact undRdP | exact undErr) (h := ?_) | (refine yS (hm := hm) (hi := by (try simp only [rowOf_size, idC_size, peerC_size, letC_size]); first | exact sizePeer | exact sizeID | exact sizeLetter | exact sizeRd) (h := ?_); clear hm; intro w1 hm; (try simp only [rowOf_set, set_kind, set_req, set_done, k1, k2, k3, Value.cells, Act.eval, k7, k8, k9, kA, Option.getD_some] at hm)) | (refine wlSM (by rfl) hm (by rfl) (by with_reducible first | exact at0 | exact at1 | exact at2 | exact at3) (by rfl) (by first | rfl | exact idV_eq _ | exact peerV_eq _ _ | exact letV_eq _) (by first | exact peerC_one _ _ | exact idC_one _) (by first | (rw [peerC_size]; exact sizePeer) | (rw [idC_size]; exact sizeID)) (by simp only [rowOf_size, idC_size, peerC_size, letC_size]; decide) (by first | exact mid_from _ _ _ | exact mid_peer _ _ _ | exact mid_id _ _) ?_; clear hm; intro w1 hm; simp only [k2, k3] at hm) | (refine wlSC (hm := hm) (hi := by first | exact sizeInt | exact sizeU64 | exact sizeBool | exact sizeIntS | exact sizePeerS | exact sizeStr | exact sizeRdP | exact sizeErr) (ho := by first | decide | (simp only [rowOf_size, idC_size, peerC_size, letC_size]; omega) | (simp; done)) (h := ?_); clear hm; intro w1 hm; (try simp only [rowOf_set, set_kind, set_req, set_done, k1, k2, k3, Value.cells, Act.eval, k7, k8, k9, kA, Option.getD_some] at hm)) | (refine wlA (hz := by first | exact zeroPeer | exact zeroID | exact zeroLetter | exact zeroRd | exact zeroErr) (hm := hm) (h := ?_); clear hm; intro b1 w1 hm; (try simp only [rowOf_set, set_kind, set_req, set_done, k1, k2, k3, Value.cells, Act.eval, k7, k8, k9, kA, Option.getD_some] at hm)) | (refine wl_box (by rfl) rfl (by first | exact peerV_cells _ _ | exact letV_cells _ | exact idV_cells _ | rfl) hm ?_; clear hm; intro b1 w1 hm) | (refine wl_build (by rfl) (built_rdr _) rfl ?_; (try simp only [Act.put, k1, k2, k3]); (try simp only [← peerV_eq, ← idV_eq, ← letV_eq])) | (go_at_call 74; refine (hp _ (hm.heap (by with_reducible first | exact at0 | exact at1 | exact at2 | exact at3))).mono ?_; rintro e w1 ⟨rfl, hx⟩; replace hm := hm.callAt (by with_reducible first | exact at0 | exact at1 | exact at2 | exact at3) hx; clear hx; simp only [k2, k3] at hm) | (go_at_call 62; refine (none_c _).mono ?_; rintro e w1 ⟨rfl, hx⟩; replace hm := hm.call hx; clear hx) | (go_at_call 58; refine (hpt _).mono ?_; rintro e w1 ⟨rfl, hx⟩; replace hm := hm.call hx; clear hx) | (with_reducible first | refine stBs ?_ | refine stMs ?_ | refine stAp ?_ | refine stCo ?_)); (try simp only [k4, k5, k6, Act.put, k1, k2, k3]))
      replace hm : Mem w [] ((rc, .cells #[.pointer (some ⟨rb, 0, none⟩)] 103 (0, 0)) :: (rb, .cells #[.string s2] 76 (0, 0)) :: (eb, .cells #[.int .i64 0] 27 (0, 0)) :: (lb, .cells (letC ⟨(k : Int), (a : Int), p, 0, 0, none, 0, 0, false, -1, 0, none, 0, 0⟩) 63 (0, 0)) :: []) _ := hm
      clear hpt hp hwk
      go_cut [] from 8 to 97 (fun wx => ∃ (rq : Nat) (s3 : ByteArray), opN f0 0 18446744073709551615 s2 = .ok (rq, s3) ∧ Mem w [] ((rc, .cells #[.pointer (some ⟨rb, 0, none⟩)] 103 (0, 0)) :: (rb, .cells #[.string s3] 76 (0, 0)) :: (eb, .cells #[.int .i64 0] 27 (0, 0)) :: (lb, .cells (letC ⟨(k : Int), (a : Int), p, rq, 0, none, 0, 0, false, -1, 0, none, 0, 0⟩) 63 (0, 0)) :: []) wx)
      case first =>
        rcases f0 with _ | _
        · go_wp2_with ((first | refine wpList_skip (by rfl) ?_ | (refine wlL (hm := hm) (hu := by first | exact undPeer | exact undID | exact undLetter | exact undRd) (hi := by (try simp only [rowOf_size, idC_size, peerC_size, letC_size]); first | exact sizePeer | exact sizeID | exact sizeLetter | exact sizeRd) (h := ?_); (try simp only [Act.put, k1, k2, k3]); (try simp only [← peerV_eq, ← idV_eq, ← letV_eq])) | refine wlLC (hm := hm) (hv := by first | exact let0 _ | exact let1 _ | exact let22 _ | exact let43 _ | exact let44 _ | exact let45 _ | exact let66 _ | rfl) (hu := by first | exact undInt | exact undU64 | exact undBool | exact undIntS | exact undPeerS | exact undStr | exact undRdP | exact undErr) (h := ?_) | (refine yS (hm := hm) (hi := by (try simp only [rowOf_size, idC_size, peerC_size, letC_size]); first | exact sizePeer | exact sizeID | exact sizeLetter | exact sizeRd) (h := ?_); clear hm; intro w1 hm; (try simp only [rowOf_set, set_kind, set_req, set_done, k1, k2, k3, Value.cells, Act.eval, k7, k8, k9, kA, Option.getD_some] at hm)) | (refine wlSM (by rfl) hm (by rfl) (by with_reducible first | exact at0 | exact at1 | exact at2 | exact at3) (by rfl) (by first | rfl | exact idV_eq _ | exact peerV_eq _ _ | exact letV_eq _) (by first | exact peerC_one _ _ | exact idC_one _) (by first | (rw [peerC_size]; exact sizePeer) | (rw [idC_size]; exact sizeID)) (by simp only [rowOf_size, idC_size, peerC_size, letC_size]; decide) (by first | exact mid_from _ _ _ | exact mid_peer _ _ _ | exact mid_id _ _) ?_; clear hm; intro w1 hm; simp only [k2, k3] at hm) | (refine wlSC (hm := hm) (hi := by first | exact sizeInt | exact sizeU64 | exact sizeBool | exact sizeIntS | exact sizePeerS | exact sizeStr | exact sizeRdP | exact sizeErr) (ho := by first | decide | (simp only [rowOf_size, idC_size, peerC_size, letC_size]; omega) | (simp; done)) (h := ?_); clear hm; intro w1 hm; (try simp only [rowOf_set, set_kind, set_req, set_done, k1, k2, k3, Value.cells, Act.eval, k7, k8, k9, kA, Option.getD_some] at hm)) | (refine wlA (hz := by first | exact zeroPeer | exact zeroID | exact zeroLetter | exact zeroRd | exact zeroErr) (hm := hm) (h := ?_); clear hm; intro b1 w1 hm; (try simp only [rowOf_set, set_kind, set_req, set_done, k1, k2, k3, Value.cells, Act.eval, k7, k8, k9, kA, Option.getD_some] at hm)) | (refine wl_box (by rfl) rfl (by first | exact peerV_cells _ _ | exact letV_cells _ | exact idV_cells _ | rfl) hm ?_; clear hm; intro b1 w1 hm) | (refine wl_build (by rfl) (built_rdr _) rfl ?_; (try simp only [Act.put, k1, k2, k3]); (try simp only [← peerV_eq, ← idV_eq, ← letV_eq])) | (with_reducible first | refine stBs ?_ | refine stMs ?_ | refine stAp ?_ | refine stCo ?_)); (try simp only [k4, k5, k6, Act.put, k1, k2, k3]))
          go_meet
          exact ⟨0, s2, rfl, hm⟩
        · rcases h3 : gN 0 18446744073709551615 s2 with x | ⟨v, s3⟩
          · obtain ⟨r, hp⟩ := gN_x h3 rb (lo' := 0) (hi' := 18446744073709551615) rfl rfl
            have H3 := hid h3
            clear h3
            go_wp2_with ((first | refine wpList_skip (by rfl) ?_ | (refine wlL (hm := hm) (hu := by first | exact undPeer | exact undID | exact undLetter | exact undRd) (hi := by (try simp only [rowOf_size, idC_size, peerC_size, letC_size]); first | exact sizePeer | exact sizeID | exact sizeLetter | exact sizeRd) (h := ?_); (try simp only [Act.put, k1, k2, k3]); (try simp only [← peerV_eq, ← idV_eq, ← letV_eq])) | refine wlLC (hm := hm) (hv := by first | exact let0 _ | exact let1 _ | exact let22 _ | exact let43 _ | exact let44 _ | exact let45 _ | exact let66 _ | rfl) (hu := by first | exact undInt | exact undU64 | exact undBool | exact undIntS | exact undPeerS | exact undStr | exact undRdP | exact undErr) (h := ?_) | (refine yS (hm := hm) (hi := by (try simp only [rowOf_size, idC_size, peerC_size, letC_size]); first | exact sizePeer | exact sizeID | exact sizeLetter | exact sizeRd) (h := ?_); clear hm; intro w1 hm; (try simp only [rowOf_set, set_kind, set_req, set_done, k1, k2, k3, Value.cells, Act.eval, k7, k8, k9, kA, Option.getD_some] at hm)) | (refine wlSM (by rfl) hm (by rfl) (by with_reducible first | exact at0 | exact at1 | exact at2 | exact at3) (by rfl) (by first | rfl | exact idV_eq _ | exact peerV_eq _ _ | exact letV_eq _) (by first | exact peerC_one _ _ | exact idC_one _) (by first | (rw [peerC_size]; exact sizePeer) | (rw [idC_size]; exact sizeID)) (by simp only [rowOf_size, idC_size, peerC_size, letC_size]; decide) (by first | exact mid_from _ _ _ | exact mid_peer _ _ _ | exact mid_id _ _) ?_; clear hm; intro w1 hm; simp only [k2, k3] at hm) | (refine wlSC (hm := hm) (hi := by first | exact sizeInt | exact sizeU64 | exact sizeBool | exact sizeIntS | exact sizePeerS | exact sizeStr | exact sizeRdP | exact sizeErr) (ho := by first | decide | (simp only [rowOf_size, idC_size, peerC_size, letC_size]; omega) | (simp; done)) (h := ?_); clear hm; intro w1 hm; (try simp only [rowOf_set, set_kind, set_req, set_done, k1, k2, k3, Value.cells, Act.eval, k7, k8, k9, kA, Option.getD_some] at hm)) | (refine wlA (hz := by first | exact zeroPeer | exact zeroID | exact zeroLetter | exact zeroRd | exact zeroErr) (hm := hm) (h := ?_); clear hm; intro b1 w1 hm; (try simp only [rowOf_set, set_kind, set_req, set_done, k1, k2, k3, Value.cells, Act.eval, k7, k8, k9, kA, Option.getD_some] at hm)) | (refine wl_box (by rfl) rfl (by first | exact peerV_cells _ _ | exact letV_cells _ | exact idV_cells _ | rfl) hm ?_; clear hm; intro b1 w1 hm) | (refine wl_build (by rfl) (built_rdr _) rfl ?_; (try simp only [Act.put, k1, k2, k3]); (try simp only [← peerV_eq, ← idV_eq, ← letV_eq])) | (go_at_call 73; refine (hp _ (hm.heap (by with_reducible first | exact at0 | exact at1 | exact at2 | exact at3))).mono ?_; rintro e w1 ⟨rfl, hx⟩; replace hm := hm.callAt (by with_reducible first | exact at0 | exact at1 | exact at2 | exact at3) hx; clear hx; simp only [k2, k3] at hm) | (with_reducible first | refine stBs ?_ | refine stMs ?_ | refine stAp ?_ | refine stCo ?_)); (try simp only [k4, k5, k6, Act.put, k1, k2, k3]))
            refine get_pan ?_ hm (letC_size _) rfl rfl rfl rfl rfl
            rw [← HR.out]; unfold getA; simp only [HK.out, HF.out, ok_bind, F0.out, opN_true, H3.out]; rfl
          · have hp := gN_c h3 rb (lo' := 0) (hi' := 18446744073709551615) rfl rfl
            have H3 := hid h3
            clear h3
            go_wp2_with ((first | refine wpList_skip (by rfl) ?_ | (refine wlL (hm := hm) (hu := by first | exact undPeer | exact undID | exact undLetter | exact undRd) (hi := by (try simp only [rowOf_size, idC_size, peerC_size, letC_size]); first | exact sizePeer | exact sizeID | exact sizeLetter | exact sizeRd) (h := ?_); (try simp only [Act.put, k1, k2, k3]); (try simp only [← peerV_eq, ← idV_eq, ← letV_eq])) | refine wlLC (hm := hm) (hv := by first | exact let0 _ | exact let1 _ | exact let22 _ | exact let43 _ | exact let44 _ | exact let45 _ | exact let66 _ | rfl) (hu := by first | exact undInt | exact undU64 | exact undBool | exact undIntS | exact undPeerS | exact undStr | exact undRdP | exact undErr) (h := ?_) | (refine yS (hm := hm) (hi := by (try simp only [rowOf_size, idC_size, peerC_size, letC_size]); first | exact sizePeer | exact sizeID | exact sizeLetter | exact sizeRd) (h := ?_); clear hm; intro w1 hm; (try simp only [rowOf_set, set_kind, set_req, set_done, k1, k2, k3, Value.cells, Act.eval, k7, k8, k9, kA, Option.getD_some] at hm)) | (refine wlSM (by rfl) hm (by rfl) (by with_reducible first | exact at0 | exact at1 | exact at2 | exact at3) (by rfl) (by first | rfl | exact idV_eq _ | exact peerV_eq _ _ | exact letV_eq _) (by first | exact peerC_one _ _ | exact idC_one _) (by first | (rw [peerC_size]; exact sizePeer) | (rw [idC_size]; exact sizeID)) (by simp only [rowOf_size, idC_size, peerC_size, letC_size]; decide) (by first | exact mid_from _ _ _ | exact mid_peer _ _ _ | exact mid_id _ _) ?_; clear hm; intro w1 hm; simp only [k2, k3] at hm) | (refine wlSC (hm := hm) (hi := by first | exact sizeInt | exact sizeU64 | exact sizeBool | exact sizeIntS | exact sizePeerS | exact sizeStr | exact sizeRdP | exact sizeErr) (ho := by first | decide | (simp only [rowOf_size, idC_size, peerC_size, letC_size]; omega) | (simp; done)) (h := ?_); clear hm; intro w1 hm; (try simp only [rowOf_set, set_kind, set_req, set_done, k1, k2, k3, Value.cells, Act.eval, k7, k8, k9, kA, Option.getD_some] at hm)) | (refine wlA (hz := by first | exact zeroPeer | exact zeroID | exact zeroLetter | exact zeroRd | exact zeroErr) (hm := hm) (h := ?_); clear hm; intro b1 w1 hm; (try simp only [rowOf_set, set_kind, set_req, set_done, k1, k2, k3, Value.cells, Act.eval, k7, k8, k9, kA, Option.getD_some] at hm)) | (refine wl_box (by rfl) rfl (by first | exact peerV_cells _ _ | exact letV_cells _ | exact idV_cells _ | rfl) hm ?_; clear hm; intro b1 w1 hm) | (refine wl_build (by rfl) (built_rdr _) rfl ?_; (try simp only [Act.put, k1, k2, k3]); (try simp only [← peerV_eq, ← idV_eq, ← letV_eq])) | (go_at_call 73; refine (hp _ (hm.heap (by with_reducible first | exact at0 | exact at1 | exact at2 | exact at3))).mono ?_; rintro e w1 ⟨rfl, hx⟩; replace hm := hm.callAt (by with_reducible first | exact at0 | exact at1 | exact at2 | exact at3) hx; clear hx; simp only [k2, k3] at hm) | (with_reducible first | refine stBs ?_ | refine stMs ?_ | refine stAp ?_ | refine stCo ?_)); (try simp only [k4, k5, k6, Act.put, k1, k2, k3]))
            go_meet
            exact ⟨v, s3, H3.out, hm⟩
      clear hm g0
      obtain ⟨rq, s3, h3, hm⟩ := hcut
      have E3 := hid h3
      clear h3
      go_upto_if 35 with ((first | refine wpList_skip (by rfl) ?_ | (refine wlL (hm := hm) (hu := by first | exact undPeer | exact undID | exact undLetter | exact undRd) (hi := by (try simp only [rowOf_size, idC_size, peerC_size, letC_size]); first | exact sizePeer | exact sizeID | exact sizeLetter | exact sizeRd) (h := ?_); (try simp only [Act.put, k1, k2, k3]); (try simp only [← peerV_eq, ← idV_eq, ← letV_eq])) | refine wlLC (hm := hm) (hv := by first | exact let0 _ | exact let1 _ | exact let22 _ | exact let43 _ | exact let44 _ | exact let45 _ | exact let66 _ | rfl) (hu := by first | exact undInt | exact undU64 | exact undBool | exact undIntS | exact undPeerS | exact undStr | exact undRdP | exact undErr) (h := ?_) | (refine yS (hm := hm) (hi := by (try simp only [rowOf_size, idC_size, peerC_size, letC_size]); first | exact sizePeer | exact sizeID | exact sizeLetter | exact sizeRd) (h := ?_); clear hm; intro w1 hm; (try simp only [rowOf_set, set_kind, set_req, set_done, k1, k2, k3, Value.cells, Act.eval, k7, k8, k9, kA, Option.getD_some] at hm)) | (refine wlSM (by rfl) hm (by rfl) (by with_reducible first | exact at0 | exact at1 | exact at2 | exact at3) (by rfl) (by first | rfl | exact idV_eq _ | exact peerV_eq _ _ | exact letV_eq _) (by first | exact peerC_one _ _ | exact idC_one _) (by first | (rw [peerC_size]; exact sizePeer) | (rw [idC_size]; exact sizeID)) (by simp only [rowOf_size, idC_size, peerC_size, letC_size]; decide) (by first | exact mid_from _ _ _ | exact mid_peer _ _ _ | exact mid_id _ _) ?_; clear hm; intro w1 hm; simp only [k2, k3] at hm) | (refine wlSC (hm := hm) (hi := by first | exact sizeInt | exact sizeU64 | exact sizeBool | exact sizeIntS | exact sizePeerS | exact sizeStr | exact sizeRdP | exact sizeErr) (ho := by first | decide | (simp only [rowOf_size, idC_size, peerC_size, letC_size]; omega) | (simp; done)) (h := ?_); clear hm; intro w1 hm; (try simp only [rowOf_set, set_kind, set_req, set_done, k1, k2, k3, Value.cells, Act.eval, k7, k8, k9, kA, Option.getD_some] at hm)) | (refine wlA (hz := by first | exact zeroPeer | exact zeroID | exact zeroLetter | exact zeroRd | exact zeroErr) (hm := hm) (h := ?_); clear hm; intro b1 w1 hm; (try simp only [rowOf_set, set_kind, set_req, set_done, k1, k2, k3, Value.cells, Act.eval, k7, k8, k9, kA, Option.getD_some] at hm)) | (refine wl_box (by rfl) rfl (by first | exact peerV_cells _ _ | exact letV_cells _ | exact idV_cells _ | rfl) hm ?_; clear hm; intro b1 w1 hm) | (refine wl_build (by rfl) (built_rdr _) rfl ?_; (try simp only [Act.put, k1, k2, k3]); (try simp only [← peerV_eq, ← idV_eq, ← letV_eq])) | (with_reducible first | refine stBs ?_ | refine stMs ?_ | refine stAp ?_ | refine stCo ?_)); (try simp only [k4, k5, k6, Act.put, k1, k2, k3]))
      go_cut [] from 8 to 97 (fun wx => ∃ (id : Nat) (s4 : ByteArray), opI f1 s3 = .ok (id, s4) ∧ Mem w [] ((rc, .cells #[.pointer (some ⟨rb, 0, none⟩)] 103 (0, 0)) :: (rb, .cells #[.string s4] 76 (0, 0)) :: (eb, .cells #[.int .i64 0] 27 (0, 0)) :: (lb, .cells (letC ⟨(k : Int), (a : Int), p, rq, id, none, 0, 0, false, -1, 0, none, 0, 0⟩) 63 (0, 0)) :: []) wx)
      case first =>
        rcases f1 with _ | _
        · go_wp2_with ((first | refine wpList_skip (by rfl) ?_ | (refine wlL (hm := hm) (hu := by first | exact undPeer | exact undID | exact undLetter | exact undRd) (hi := by (try simp only [rowOf_size, idC_size, peerC_size, letC_size]); first | exact sizePeer | exact sizeID | exact sizeLetter | exact sizeRd) (h := ?_); (try simp only [Act.put, k1, k2, k3]); (try simp only [← peerV_eq, ← idV_eq, ← letV_eq])) | refine wlLC (hm := hm) (hv := by first | exact let0 _ | exact let1 _ | exact let22 _ | exact let43 _ | exact let44 _ | exact let45 _ | exact let66 _ | rfl) (hu := by first | exact undInt | exact undU64 | exact undBool | exact undIntS | exact undPeerS | exact undStr | exact undRdP | exact undErr) (h := ?_) | (refine yS (hm := hm) (hi := by (try simp only [rowOf_size, idC_size, peerC_size, letC_size]); first | exact sizePeer | exact sizeID | exact sizeLetter | exact sizeRd) (h := ?_); clear hm; intro w1 hm; (try simp only [rowOf_set, set_kind, set_req, set_done, k1, k2, k3, Value.cells, Act.eval, k7, k8, k9, kA, Option.getD_some] at hm)) | (refine wlSM (by rfl) hm (by rfl) (by with_reducible first | exact at0 | exact at1 | exact at2 | exact at3) (by rfl) (by first | rfl | exact idV_eq _ | exact peerV_eq _ _ | exact letV_eq _) (by first | exact peerC_one _ _ | exact idC_one _) (by first | (rw [peerC_size]; exact sizePeer) | (rw [idC_size]; exact sizeID)) (by simp only [rowOf_size, idC_size, peerC_size, letC_size]; decide) (by first | exact mid_from _ _ _ | exact mid_peer _ _ _ | exact mid_id _ _) ?_; clear hm; intro w1 hm; simp only [k2, k3] at hm) | (refine wlSC (hm := hm) (hi := by first | exact sizeInt | exact sizeU64 | exact sizeBool | exact sizeIntS | exact sizePeerS | exact sizeStr | exact sizeRdP | exact sizeErr) (ho := by first | decide | (simp only [rowOf_size, idC_size, peerC_size, letC_size]; omega) | (simp; done)) (h := ?_); clear hm; intro w1 hm; (try simp only [rowOf_set, set_kind, set_req, set_done, k1, k2, k3, Value.cells, Act.eval, k7, k8, k9, kA, Option.getD_some] at hm)) | (refine wlA (hz := by first | exact zeroPeer | exact zeroID | exact zeroLetter | exact zeroRd | exact zeroErr) (hm := hm) (h := ?_); clear hm; intro b1 w1 hm; (try simp only [rowOf_set, set_kind, set_req, set_done, k1, k2, k3, Value.cells, Act.eval, k7, k8, k9, kA, Option.getD_some] at hm)) | (refine wl_box (by rfl) rfl (by first | exact peerV_cells _ _ | exact letV_cells _ | exact idV_cells _ | rfl) hm ?_; clear hm; intro b1 w1 hm) | (refine wl_build (by rfl) (built_rdr _) rfl ?_; (try simp only [Act.put, k1, k2, k3]); (try simp only [← peerV_eq, ← idV_eq, ← letV_eq])) | (with_reducible first | refine stBs ?_ | refine stMs ?_ | refine stAp ?_ | refine stCo ?_)); (try simp only [k4, k5, k6, Act.put, k1, k2, k3]))
          go_meet
          exact ⟨0, s3, rfl, hm⟩
        · rcases h3 : gI s3 with x | ⟨v, s4⟩
          · obtain ⟨r, hp⟩ := gI_x h3 rb
            have H3 := hid h3
            clear h3
            go_wp2_with ((first | refine wpList_skip (by rfl) ?_ | (refine wlL (hm := hm) (hu := by first | exact undPeer | exact undID | exact undLetter | exact undRd) (hi := by (try simp only [rowOf_size, idC_size, peerC_size, letC_size]); first | exact sizePeer | exact sizeID | exact sizeLetter | exact sizeRd) (h := ?_); (try simp only [Act.put, k1, k2, k3]); (try simp only [← peerV_eq, ← idV_eq, ← letV_eq])) | refine wlLC (hm := hm) (hv := by first | exact let0 _ | exact let1 _ | exact let22 _ | exact let43 _ | exact let44 _ | exact let45 _ | exact let66 _ | rfl) (hu := by first | exact undInt | exact undU64 | exact undBool | exact undIntS | exact undPeerS | exact undStr | exact undRdP | exact undErr) (h := ?_) | (refine yS (hm := hm) (hi := by (try simp only [rowOf_size, idC_size, peerC_size, letC_size]); first | exact sizePeer | exact sizeID | exact sizeLetter | exact sizeRd) (h := ?_); clear hm; intro w1 hm; (try simp only [rowOf_set, set_kind, set_req, set_done, k1, k2, k3, Value.cells, Act.eval, k7, k8, k9, kA, Option.getD_some] at hm)) | (refine wlSM (by rfl) hm (by rfl) (by with_reducible first | exact at0 | exact at1 | exact at2 | exact at3) (by rfl) (by first | rfl | exact idV_eq _ | exact peerV_eq _ _ | exact letV_eq _) (by first | exact peerC_one _ _ | exact idC_one _) (by first | (rw [peerC_size]; exact sizePeer) | (rw [idC_size]; exact sizeID)) (by simp only [rowOf_size, idC_size, peerC_size, letC_size]; decide) (by first | exact mid_from _ _ _ | exact mid_peer _ _ _ | exact mid_id _ _) ?_; clear hm; intro w1 hm; simp only [k2, k3] at hm) | (refine wlSC (hm := hm) (hi := by first | exact sizeInt | exact sizeU64 | exact sizeBool | exact sizeIntS | exact sizePeerS | exact sizeStr | exact sizeRdP | exact sizeErr) (ho := by first | decide | (simp only [rowOf_size, idC_size, peerC_size, letC_size]; omega) | (simp; done)) (h := ?_); clear hm; intro w1 hm; (try simp only [rowOf_set, set_kind, set_req, set_done, k1, k2, k3, Value.cells, Act.eval, k7, k8, k9, kA, Option.getD_some] at hm)) | (refine wlA (hz := by first | exact zeroPeer | exact zeroID | exact zeroLetter | exact zeroRd | exact zeroErr) (hm := hm) (h := ?_); clear hm; intro b1 w1 hm; (try simp only [rowOf_set, set_kind, set_req, set_done, k1, k2, k3, Value.cells, Act.eval, k7, k8, k9, kA, Option.getD_some] at hm)) | (refine wl_box (by rfl) rfl (by first | exact peerV_cells _ _ | exact letV_cells _ | exact idV_cells _ | rfl) hm ?_; clear hm; intro b1 w1 hm) | (refine wl_build (by rfl) (built_rdr _) rfl ?_; (try simp only [Act.put, k1, k2, k3]); (try simp only [← peerV_eq, ← idV_eq, ← letV_eq])) | (go_at_call 75; refine (hp _ (hm.heap (by with_reducible first | exact at0 | exact at1 | exact at2 | exact at3))).mono ?_; rintro e w1 ⟨rfl, hx⟩; replace hm := hm.callAt (by with_reducible first | exact at0 | exact at1 | exact at2 | exact at3) hx; clear hx; simp only [k2, k3] at hm) | (with_reducible first | refine stBs ?_ | refine stMs ?_ | refine stAp ?_ | refine stCo ?_)); (try simp only [k4, k5, k6, Act.put, k1, k2, k3]))
            refine get_pan ?_ hm (letC_size _) rfl rfl rfl rfl rfl
            rw [← HR.out]; unfold getA; simp only [HK.out, HF.out, ok_bind, F0.out, E3.out, F1.out, opI_true, H3.out]; rfl
          · have hp := gI_c h3 rb
            have H3 := hid h3
            clear h3
            go_wp2_with ((first | refine wpList_skip (by rfl) ?_ | (refine wlL (hm := hm) (hu := by first | exact undPeer | exact undID | exact undLetter | exact undRd) (hi := by (try simp only [rowOf_size, idC_size, peerC_size, letC_size]); first | exact sizePeer | exact sizeID | exact sizeLetter | exact sizeRd) (h := ?_); (try simp only [Act.put, k1, k2, k3]); (try simp only [← peerV_eq, ← idV_eq, ← letV_eq])) | refine wlLC (hm := hm) (hv := by first | exact let0 _ | exact let1 _ | exact let22 _ | exact let43 _ | exact let44 _ | exact let45 _ | exact let66 _ | rfl) (hu := by first | exact undInt | exact undU64 | exact undBool | exact undIntS | exact undPeerS | exact undStr | exact undRdP | exact undErr) (h := ?_) | (refine yS (hm := hm) (hi := by (try simp only [rowOf_size, idC_size, peerC_size, letC_size]); first | exact sizePeer | exact sizeID | exact sizeLetter | exact sizeRd) (h := ?_); clear hm; intro w1 hm; (try simp only [rowOf_set, set_kind, set_req, set_done, k1, k2, k3, Value.cells, Act.eval, k7, k8, k9, kA, Option.getD_some] at hm)) | (refine wlSM (by rfl) hm (by rfl) (by with_reducible first | exact at0 | exact at1 | exact at2 | exact at3) (by rfl) (by first | rfl | exact idV_eq _ | exact peerV_eq _ _ | exact letV_eq _) (by first | exact peerC_one _ _ | exact idC_one _) (by first | (rw [peerC_size]; exact sizePeer) | (rw [idC_size]; exact sizeID)) (by simp only [rowOf_size, idC_size, peerC_size, letC_size]; decide) (by first | exact mid_from _ _ _ | exact mid_peer _ _ _ | exact mid_id _ _) ?_; clear hm; intro w1 hm; simp only [k2, k3] at hm) | (refine wlSC (hm := hm) (hi := by first | exact sizeInt | exact sizeU64 | exact sizeBool | exact sizeIntS | exact sizePeerS | exact sizeStr | exact sizeRdP | exact sizeErr) (ho := by first | decide | (simp only [rowOf_size, idC_size, peerC_size, letC_size]; omega) | (simp; done)) (h := ?_); clear hm; intro w1 hm; (try simp only [rowOf_set, set_kind, set_req, set_done, k1, k2, k3, Value.cells, Act.eval, k7, k8, k9, kA, Option.getD_some] at hm)) | (refine wlA (hz := by first | exact zeroPeer | exact zeroID | exact zeroLetter | exact zeroRd | exact zeroErr) (hm := hm) (h := ?_); clear hm; intro b1 w1 hm; (try simp only [rowOf_set, set_kind, set_req, set_done, k1, k2, k3, Value.cells, Act.eval, k7, k8, k9, kA, Option.getD_some] at hm)) | (refine wl_box (by rfl) rfl (by first | exact peerV_cells _ _ | exact letV_cells _ | exact idV_cells _ | rfl) hm ?_; clear hm; intro b1 w1 hm) | (refine wl_build (by rfl) (built_rdr _) rfl ?_; (try simp only [Act.put, k1, k2, k3]); (try simp only [← peerV_eq, ← idV_eq, ← letV_eq])) | (go_at_call 75; refine (hp _ (hm.heap (by with_reducible first | exact at0 | exact at1 | exact at2 | exact at3))).mono ?_; rintro e w1 ⟨rfl, hx⟩; replace hm := hm.callAt (by with_reducible first | exact at0 | exact at1 | exact at2 | exact at3) hx; clear hx; simp only [k2, k3] at hm) | (with_reducible first | refine stBs ?_ | refine stMs ?_ | refine stAp ?_ | refine stCo ?_)); (try simp only [k4, k5, k6, Act.put, k1, k2, k3]))
            go_meet
            exact ⟨v, s4, H3.out, hm⟩
      clear hm g1
      obtain ⟨id, s4, h3, hm⟩ := hcut
      have E4 := hid h3
      clear h3
      go_upto_if 41 with ((first | refine wpList_skip (by rfl) ?_ | (refine wlL (hm := hm) (hu := by first | exact undPeer | exact undID | exact undLetter | exact undRd) (hi := by (try simp only [rowOf_size, idC_size, peerC_size, letC_size]); first | exact sizePeer | exact sizeID | exact sizeLetter | exact sizeRd) (h := ?_); (try simp only [Act.put, k1, k2, k3]); (try simp only [← peerV_eq, ← idV_eq, ← letV_eq])) | refine wlLC (hm := hm) (hv := by first | exact let0 _ | exact let1 _ | exact let22 _ | exact let43 _ | exact let44 _ | exact let45 _ | exact let66 _ | rfl) (hu := by first | exact undInt | exact undU64 | exact undBool | exact undIntS | exact undPeerS | exact undStr | exact undRdP | exact undErr) (h := ?_) | (refine yS (hm := hm) (hi := by (try simp only [rowOf_size, idC_size, peerC_size, letC_size]); first | exact sizePeer | exact sizeID | exact sizeLetter | exact sizeRd) (h := ?_); clear hm; intro w1 hm; (try simp only [rowOf_set, set_kind, set_req, set_done, k1, k2, k3, Value.cells, Act.eval, k7, k8, k9, kA, Option.getD_some] at hm)) | (refine wlSM (by rfl) hm (by rfl) (by with_reducible first | exact at0 | exact at1 | exact at2 | exact at3) (by rfl) (by first | rfl | exact idV_eq _ | exact peerV_eq _ _ | exact letV_eq _) (by first | exact peerC_one _ _ | exact idC_one _) (by first | (rw [peerC_size]; exact sizePeer) | (rw [idC_size]; exact sizeID)) (by simp only [rowOf_size, idC_size, peerC_size, letC_size]; decide) (by first | exact mid_from _ _ _ | exact mid_peer _ _ _ | exact mid_id _ _) ?_; clear hm; intro w1 hm; simp only [k2, k3] at hm) | (refine wlSC (hm := hm) (hi := by first | exact sizeInt | exact sizeU64 | exact sizeBool | exact sizeIntS | exact sizePeerS | exact sizeStr | exact sizeRdP | exact sizeErr) (ho := by first | decide | (simp only [rowOf_size, idC_size, peerC_size, letC_size]; omega) | (simp; done)) (h := ?_); clear hm; intro w1 hm; (try simp only [rowOf_set, set_kind, set_req, set_done, k1, k2, k3, Value.cells, Act.eval, k7, k8, k9, kA, Option.getD_some] at hm)) | (refine wlA (hz := by first | exact zeroPeer | exact zeroID | exact zeroLetter | exact zeroRd | exact zeroErr) (hm := hm) (h := ?_); clear hm; intro b1 w1 hm; (try simp only [rowOf_set, set_kind, set_req, set_done, k1, k2, k3, Value.cells, Act.eval, k7, k8, k9, kA, Option.getD_some] at hm)) | (refine wl_box (by rfl) rfl (by first | exact peerV_cells _ _ | exact letV_cells _ | exact idV_cells _ | rfl) hm ?_; clear hm; intro b1 w1 hm) | (refine wl_build (by rfl) (built_rdr _) rfl ?_; (try simp only [Act.put, k1, k2, k3]); (try simp only [← peerV_eq, ← idV_eq, ← letV_eq])) | (with_reducible first | refine stBs ?_ | refine stMs ?_ | refine stAp ?_ | refine stCo ?_)); (try simp only [k4, k5, k6, Act.put, k1, k2, k3]))
      go_cut [] from 8 to 97 (fun wx => ∃ (av : List Nat) (s5 : ByteArray) (c : Option Addr) (n cap : Nat) (S : List (Nat × Obj)), opM (gN 0 999) f2 16 s4 = .ok (av, s5) ∧ RowSl 3 1 (.slice c n cap) (av.map intR) S ∧ Mem w [] ((rc, .cells #[.pointer (some ⟨rb, 0, none⟩)] 103 (0, 0)) :: (rb, .cells #[.string s5] 76 (0, 0)) :: (eb, .cells #[.int .i64 0] 27 (0, 0)) :: (lb, .cells (letC ⟨(k : Int), (a : Int), p, rq, id, c, n, cap, false, -1, 0, none, 0, 0⟩) 63 (0, 0)) :: S) wx)
      case first =>
        rcases f2 with _ | _
        · go_wp2_with ((first | refine wpList_skip (by rfl) ?_ | (refine wlL (hm := hm) (hu := by first | exact undPeer | exact undID | exact undLetter | exact undRd) (hi := by (try simp only [rowOf_size, idC_size, peerC_size, letC_size]); first | exact sizePeer | exact sizeID | exact sizeLetter | exact sizeRd) (h := ?_); (try simp only [Act.put, k1, k2, k3]); (try simp only [← peerV_eq, ← idV_eq, ← letV_eq])) | refine wlLC (hm := hm) (hv := by first | exact let0 _ | exact let1 _ | exact let22 _ | exact let43 _ | exact let44 _ | exact let45 _ | exact let66 _ | rfl) (hu := by first | exact undInt | exact undU64 | exact undBool | exact undIntS | exact undPeerS | exact undStr | exact undRdP | exact undErr) (h := ?_) | (refine yS (hm := hm) (hi := by (try simp only [rowOf_size, idC_size, peerC_size, letC_size]); first | exact sizePeer | exact sizeID | exact sizeLetter | exact sizeRd) (h := ?_); clear hm; intro w1 hm; (try simp only [rowOf_set, set_kind, set_req, set_done, k1, k2, k3, Value.cells, Act.eval, k7, k8, k9, kA, Option.getD_some] at hm)) | (refine wlSM (by rfl) hm (by rfl) (by with_reducible first | exact at0 | exact at1 | exact at2 | exact at3) (by rfl) (by first | rfl | exact idV_eq _ | exact peerV_eq _ _ | exact letV_eq _) (by first | exact peerC_one _ _ | exact idC_one _) (by first | (rw [peerC_size]; exact sizePeer) | (rw [idC_size]; exact sizeID)) (by simp only [rowOf_size, idC_size, peerC_size, letC_size]; decide) (by first | exact mid_from _ _ _ | exact mid_peer _ _ _ | exact mid_id _ _) ?_; clear hm; intro w1 hm; simp only [k2, k3] at hm) | (refine wlSC (hm := hm) (hi := by first | exact sizeInt | exact sizeU64 | exact sizeBool | exact sizeIntS | exact sizePeerS | exact sizeStr | exact sizeRdP | exact sizeErr) (ho := by first | decide | (simp only [rowOf_size, idC_size, peerC_size, letC_size]; omega) | (simp; done)) (h := ?_); clear hm; intro w1 hm; (try simp only [rowOf_set, set_kind, set_req, set_done, k1, k2, k3, Value.cells, Act.eval, k7, k8, k9, kA, Option.getD_some] at hm)) | (refine wlA (hz := by first | exact zeroPeer | exact zeroID | exact zeroLetter | exact zeroRd | exact zeroErr) (hm := hm) (h := ?_); clear hm; intro b1 w1 hm; (try simp only [rowOf_set, set_kind, set_req, set_done, k1, k2, k3, Value.cells, Act.eval, k7, k8, k9, kA, Option.getD_some] at hm)) | (refine wl_box (by rfl) rfl (by first | exact peerV_cells _ _ | exact letV_cells _ | exact idV_cells _ | rfl) hm ?_; clear hm; intro b1 w1 hm) | (refine wl_build (by rfl) (built_rdr _) rfl ?_; (try simp only [Act.put, k1, k2, k3]); (try simp only [← peerV_eq, ← idV_eq, ← letV_eq])) | (with_reducible first | refine stBs ?_ | refine stMs ?_ | refine stAp ?_ | refine stCo ?_)); (try simp only [k4, k5, k6, Act.put, k1, k2, k3]))
          go_meet
          exact ⟨[], s4, none, 0, 0, [], rfl, RowSl.nil _ _, hm⟩
        · rcases h3 : gN 0 16 s4 with x | ⟨n, s5⟩
          · obtain ⟨r, hp⟩ := gN_x h3 rb (lo' := 0) (hi' := 16) rfl rfl
            have H3 := hid h3
            clear h3
            go_wp2_with ((first | refine wpList_skip (by rfl) ?_ | (refine wlL (hm := hm) (hu := by first | exact undPeer | exact undID | exact undLetter | exact undRd) (hi := by (try simp only [rowOf_size, idC_size, peerC_size, letC_size]); first | exact sizePeer | exact sizeID | exact sizeLetter | exact sizeRd) (h := ?_); (try simp only [Act.put, k1, k2, k3]); (try simp only [← peerV_eq, ← idV_eq, ← letV_eq])) | refine wlLC (hm := hm) (hv := by first | exact let0 _ | exact let1 _ | exact let22 _ | exact let43 _ | exact let44 _ | exact let45 _ | exact let66 _ | rfl) (hu := by first | exact undInt | exact undU64 | exact undBool | exact undIntS | exact undPeerS | exact undStr | exact undRdP | exact undErr) (h := ?_) | (refine yS (hm := hm) (hi := by (try simp only [rowOf_size, idC_size, peerC_size, letC_size]); first | exact sizePeer | exact sizeID | exact sizeLetter | exact sizeRd) (h := ?_); clear hm; intro w1 hm; (try simp only [rowOf_set, set_kind, set_req, set_done, k1, k2, k3, Value.cells, Act.eval, k7, k8, k9, kA, Option.getD_some] at hm)) | (refine wlSM (by rfl) hm (by rfl) (by with_reducible first | exact at0 | exact at1 | exact at2 | exact at3) (by rfl) (by first | rfl | exact idV_eq _ | exact peerV_eq _ _ | exact letV_eq _) (by first | exact peerC_one _ _ | exact idC_one _) (by first | (rw [peerC_size]; exact sizePeer) | (rw [idC_size]; exact sizeID)) (by simp only [rowOf_size, idC_size, peerC_size, letC_size]; decide) (by first | exact mid_from _ _ _ | exact mid_peer _ _ _ | exact mid_id _ _) ?_; clear hm; intro w1 hm; simp only [k2, k3] at hm) | (refine wlSC (hm := hm) (hi := by first | exact sizeInt | exact sizeU64 | exact sizeBool | exact sizeIntS | exact sizePeerS | exact sizeStr | exact sizeRdP | exact sizeErr) (ho := by first | decide | (simp only [rowOf_size, idC_size, peerC_size, letC_size]; omega) | (simp; done)) (h := ?_); clear hm; intro w1 hm; (try simp only [rowOf_set, set_kind, set_req, set_done, k1, k2, k3, Value.cells, Act.eval, k7, k8, k9, kA, Option.getD_some] at hm)) | (refine wlA (hz := by first | exact zeroPeer | exact zeroID | exact zeroLetter | exact zeroRd | exact zeroErr) (hm := hm) (h := ?_); clear hm; intro b1 w1 hm; (try simp only [rowOf_set, set_kind, set_req, set_done, k1, k2, k3, Value.cells, Act.eval, k7, k8, k9, kA, Option.getD_some] at hm)) | (refine wl_box (by rfl) rfl (by first | exact peerV_cells _ _ | exact letV_cells _ | exact idV_cells _ | rfl) hm ?_; clear hm; intro b1 w1 hm) | (refine wl_build (by rfl) (built_rdr _) rfl ?_; (try simp only [Act.put, k1, k2, k3]); (try simp only [← peerV_eq, ← idV_eq, ← letV_eq])) | (go_at_call 73; refine (hp _ (hm.heap (by with_reducible first | exact at0 | exact at1 | exact at2 | exact at3))).mono ?_; rintro e w1 ⟨rfl, hx⟩; replace hm := hm.callAt (by with_reducible first | exact at0 | exact at1 | exact at2 | exact at3) hx; clear hx; simp only [k2, k3] at hm) | (with_reducible first | refine stBs ?_ | refine stMs ?_ | refine stAp ?_ | refine stCo ?_)); (try simp only [k4, k5, k6, Act.put, k1, k2, k3]))
            refine get_pan ?_ hm (letC_size _) rfl rfl rfl rfl rfl
            rw [← HR.out]; unfold getA; simp only [HK.out, HF.out, ok_bind, F0.out, E3.out, F1.out, E4.out, F2.out, opM_true, H3.out]; rfl
          · have hp := gN_c h3 rb (lo' := 0) (hi' := 16) rfl rfl
            have hn16 : n ≤ 16 := (gN_ok h3).2.2.2.2
            have H3 := hid h3
            clear h3
            go_wp2_with ((first | refine wpList_skip (by rfl) ?_ | (refine wlL (hm := hm) (hu := by first | exact undPeer | exact undID | exact undLetter | exact undRd) (hi := by (try simp only [rowOf_size, idC_size, peerC_size, letC_size]); first | exact sizePeer | exact sizeID | exact sizeLetter | exact sizeRd) (h := ?_); (try simp only [Act.put, k1, k2, k3]); (try simp only [← peerV_eq, ← idV_eq, ← letV_eq])) | refine wlLC (hm := hm) (hv := by first | exact let0 _ | exact let1 _ | exact let22 _ | exact let43 _ | exact let44 _ | exact let45 _ | exact let66 _ | rfl) (hu := by first | exact undInt | exact undU64 | exact undBool | exact undIntS | exact undPeerS | exact undStr | exact undRdP | exact undErr) (h := ?_) | (refine yS (hm := hm) (hi := by (try simp only [rowOf_size, idC_size, peerC_size, letC_size]); first | exact sizePeer | exact sizeID | exact sizeLetter | exact sizeRd) (h := ?_); clear hm; intro w1 hm; (try simp only [rowOf_set, set_kind, set_req, set_done, k1, k2, k3, Value.cells, Act.eval, k7, k8, k9, kA, Option.getD_some] at hm)) | (refine wlSM (by rfl) hm (by rfl) (by with_reducible first | exact at0 | exact at1 | exact at2 | exact at3) (by rfl) (by first | rfl | exact idV_eq _ | exact peerV_eq _ _ | exact letV_eq _) (by first | exact peerC_one _ _ | exact idC_one _) (by first | (rw [peerC_size]; exact sizePeer) | (rw [idC_size]; exact sizeID)) (by simp only [rowOf_size, idC_size, peerC_size, letC_size]; decide) (by first | exact mid_from _ _ _ | exact mid_peer _ _ _ | exact mid_id _ _) ?_; clear hm; intro w1 hm; simp only [k2, k3] at hm) | (refine wlSC (hm := hm) (hi := by first | exact sizeInt | exact sizeU64 | exact sizeBool | exact sizeIntS | exact sizePeerS | exact sizeStr | exact sizeRdP | exact sizeErr) (ho := by first | decide | (simp only [rowOf_size, idC_size, peerC_size, letC_size]; omega) | (simp; done)) (h := ?_); clear hm; intro w1 hm; (try simp only [rowOf_set, set_kind, set_req, set_done, k1, k2, k3, Value.cells, Act.eval, k7, k8, k9, kA, Option.getD_some] at hm)) | (refine wlA (hz := by first | exact zeroPeer | exact zeroID | exact zeroLetter | exact zeroRd | exact zeroErr) (hm := hm) (h := ?_); clear hm; intro b1 w1 hm; (try simp only [rowOf_set, set_kind, set_req, set_done, k1, k2, k3, Value.cells, Act.eval, k7, k8, k9, kA, Option.getD_some] at hm)) | (refine wl_box (by rfl) rfl (by first | exact peerV_cells _ _ | exact letV_cells _ | exact idV_cells _ | rfl) hm ?_; clear hm; intro b1 w1 hm) | (refine wl_build (by rfl) (built_rdr _) rfl ?_; (try simp only [Act.put, k1, k2, k3]); (try simp only [← peerV_eq, ← idV_eq, ← letV_eq])) | (go_at_call 73; refine (hp _ (hm.heap (by with_reducible first | exact at0 | exact at1 | exact at2 | exact at3))).mono ?_; rintro e w1 ⟨rfl, hx⟩; replace hm := hm.callAt (by with_reducible first | exact at0 | exact at1 | exact at2 | exact at3) hx; clear hx; simp only [k2, k3] at hm) | (with_reducible first | refine stBs ?_ | refine stMs ?_ | refine stAp ?_ | refine stCo ?_)); (try simp only [k4, k5, k6, Act.put, k1, k2, k3]))
            clear hp
            go_loopw [44] (fun vi wr => ∃ (i : Nat) (av : List Nat) (s6 : ByteArray) (c : Option Addr) (cap : Nat) (S : List (Nat × Obj)), i ≤ n ∧ vi = .int .u64 (i : Int) ∧ gMany (gN 0 999) i s5 = .ok (av, s6) ∧ RowSl 3 1 (.slice c i cap) (av.map intR) S ∧ Mem w [] ((rc, .cells #[.pointer (some ⟨rb, 0, none⟩)] 103 (0, 0)) :: (rb, .cells #[.string s6] 76 (0, 0)) :: (eb, .cells #[.int .i64 0] 27 (0, 0)) :: (lb, .cells (letC ⟨(k : Int), (a : Int), p, rq, id, c, i, cap, false, -1, 0, none, 0, 0⟩) 63 (0, 0)) :: S) wr) (fun vi _ => (n - intOf vi).toNat)
            case atStart => exact ⟨0, [], s5, none, 0, [], by omega, rfl, rfl, RowSl.nil _ _, hm⟩
            case round =>
              clear hm
              obtain ⟨i, av, s6, c, cap, S, hi, rfl, hg, hrow, hm⟩ := hrel
              have HLen := hid (show (av.map intR).length ≤ 16 by rw [List.length_map, gMany_len hg]; omega)
              by_cases hin : i < n
              · have e1 : (i : Int) < (n : Int) := by omega
                have gg : IntKind.u64.wrap ((i : Int) + 1) = (i : Int) + 1 := wrap_u64 (by omega) (by omega)
                have HI := hid hi
                have HIN := hid hin
                have HG := hid hg
                have HS := hid hrow
                have HN := hid hn16
                clear hi hin hg hrow hn16
                rcases hv : gN 0 999 s6 with x | ⟨v, s7⟩
                · obtain ⟨r, hp⟩ := gN_x hv rb (lo' := 0) (hi' := 999) rfl rfl
                  have HV := hid hv
                  clear hv
                  go_wp2_with (with_reducible first | refine stAl ?_ | refine stBo ?_ | refine stLo ?_ | refine stSo ?_ | refine stBu ?_ | refine stBs ?_ | refine stMs ?_ | refine stAp ?_ | refine stCo ?_)
                  refine wp_region_G (C := [(100, Mem w [] [(rc, .cells #[.pointer (some ⟨rb, 0, none⟩)] 103 (0, 0))]), (6, Mem w [] [(rc, .cells #[.pointer (some ⟨rb, 0, none⟩)] 103 (0, 0)), (lb, .cells (letC ⟨(k : Int), (a : Int), p, rq, id, c, i, cap, false, -1, 0, none, 0, 0⟩) 63 (0, 0))])]) (by kernel_rfl) ?_
                  replace hm := hm.drew
                  have hS : Held [(100, Mem w [] [(rc, .cells #[.pointer (some ⟨rb, 0, none⟩)] 103 (0, 0))]), (6, Mem w [] [(rc, .cells #[.pointer (some ⟨rb, 0, none⟩)] 103 (0, 0)), (lb, .cells (letC ⟨(k : Int), (a : Int), p, rq, id, c, i, cap, false, -1, 0, none, 0, 0⟩) 63 (0, 0))])] [] _ := Held.cons (hm.sub (.cons_cons _ (List.nil_sublist _))) (Held.cons (hm.sub (.cons_cons _ (.cons _ (.cons _ (.cons_cons _ (List.nil_sublist _)))))) (Held.nil _ _))
                  refine wgS (i := 0) 0 (hQ := by intro _ _ _ h; exact get_put (by decide) (by decide) h) (hS := hS) (h := ?_); simp only [k4, k5, k6, Act.put, k1, k2, k3]
                  refine wgS (i := 1) 1 (hQ := by intro _ _ _ h; exact get_put (by decide) (by decide) h) (hS := hS) (h1 := ld_cell (i := 1) rfl rfl (let43 _) undIntS rfl) (h := ?_); simp only [k4, k5, k6, Act.put, k1, k2, k3]
                  refine wgS (i := 2) 0 (hQ := by intro _ _ _ h; exact get_put (by decide) (by decide) h) (hS := hS) (h1 := ld_row (i := 0) rfl rfl undRd rfl (by exact sizeRd)) (h := ?_); simp only [k4, k5, k6, Act.put, k1, k2, k3]
                  refine wgO (i := 3) (done := []) (h := fun K' hK => ?_); go_simp; refine (hp _ (hm.heap (i := 1) rfl)).mono ?_; rintro e w7 ⟨rfl, hx⟩; replace hm := hm.callAt (i := 1) rfl hx; clear hx hS; simp only [k2, k3] at hm
                  refine get_pan ?_ hm (letC_size _) rfl rfl rfl rfl rfl
                  rw [← HR.out]; unfold getA; simp only [HK.out, HF.out, ok_bind, F0.out, E3.out, F1.out, E4.out, F2.out, opM_true, H3.out, gMany_err HG.out HV.out HIN.out]; rfl
                · have hp := gN_c hv rb (lo' := 0) (hi' := 999) rfl rfl
                  have hwv := wrap_small (gN_ok hv).2.2.2.2
                  have HV := hid hv
                  clear hv
                  have HLen2 := hid (show (av.map intR ++ [intR v]).length = i + 1 by rw [List.length_append, List.length_map, gMany_len HG.out]; rfl)
                  go_wp2_with (with_reducible first | refine stAl ?_ | refine stBo ?_ | refine stLo ?_ | refine stSo ?_ | refine stBu ?_ | refine stBs ?_ | refine stMs ?_ | refine stAp ?_ | refine stCo ?_)
                  refine wp_region_G (C := [(100, Mem w [] [(rc, .cells #[.pointer (some ⟨rb, 0, none⟩)] 103 (0, 0))]), (6, Mem w [] [(rc, .cells #[.pointer (some ⟨rb, 0, none⟩)] 103 (0, 0)), (lb, .cells (letC ⟨(k : Int), (a : Int), p, rq, id, c, i, cap, false, -1, 0, none, 0, 0⟩) 63 (0, 0))])]) (by kernel_rfl) ?_
                  replace hm := hm.drew
                  have hS : Held [(100, Mem w [] [(rc, .cells #[.pointer (some ⟨rb, 0, none⟩)] 103 (0, 0))]), (6, Mem w [] [(rc, .cells #[.pointer (some ⟨rb, 0, none⟩)] 103 (0, 0)), (lb, .cells (letC ⟨(k : Int), (a : Int), p, rq, id, c, i, cap, false, -1, 0, none, 0, 0⟩) 63 (0, 0))])] [] _ := Held.cons (hm.sub (.cons_cons _ (List.nil_sublist _))) (Held.cons (hm.sub (.cons_cons _ (.cons _ (.cons _ (.cons_cons _ (List.nil_sublist _)))))) (Held.nil _ _))
                  refine wgS (i := 0) 0 (hQ := by intro _ _ _ h; exact get_put (by decide) (by decide) h) (hS := hS) (h := ?_); simp only [k4, k5, k6, Act.put, k1, k2, k3]
                  refine wgS (i := 1) 1 (hQ := by intro _ _ _ h; exact get_put (by decide) (by decide) h) (hS := hS) (h1 := ld_cell (i := 1) rfl rfl (let43 _) undIntS rfl) (h := ?_); simp only [k4, k5, k6, Act.put, k1, k2, k3]
                  refine wgS (i := 2) 0 (hQ := by intro _ _ _ h; exact get_put (by decide) (by decide) h) (hS := hS) (h1 := ld_row (i := 0) rfl rfl undRd rfl (by exact sizeRd)) (h := ?_); simp only [k4, k5, k6, Act.put, k1, k2, k3]
                  refine wgO (i := 3) (done := []) (h := fun K' hK => ?_); go_simp; refine (hp _ (hm.heap (i := 1) rfl)).mono ?_; rintro e w7 ⟨rfl, hx⟩; replace hm := hm.callAt (i := 1) rfl hx; clear hx hS; simp only [k2, k3] at hm
                  have hS : Held [(100, Mem w [] [(rc, .cells #[.pointer (some ⟨rb, 0, none⟩)] 103 (0, 0))]), (6, Mem w [] [(rc, .cells #[.pointer (some ⟨rb, 0, none⟩)] 103 (0, 0)), (lb, .cells (letC ⟨(k : Int), (a : Int), p, rq, id, c, i, cap, false, -1, 0, none, 0, 0⟩) 63 (0, 0))])] [] _ := Held.cons (hm.sub (.cons_cons _ (List.nil_sublist _))) (Held.cons (hm.sub (.cons_cons _ (.cons _ (.cons _ (.cons_cons _ (List.nil_sublist _)))))) (Held.nil _ _))
                  refine hK.out _ _ hS ?_; clear hK K'; (try (simp only [k4, k5, k6, Act.put, k1, k2, k3]))
                  refine wgS (i := 4) 0 (hQ := by intro _ _ _ h; exact get_put (by decide) (by decide) h) (hS := hS) (h := ?_); simp only [k4, k5, k6, Act.put, k1, k2, k3]
                  refine wgO (i := 5) (done := []) (h := fun K' hK => ?_); refine ow_buildSlice (ps := [(0, .int .i64 (v : Int))]) (cells := rowOf 1 (intR v)) hm elInt (by decide) (by decide) (by simp [Act.eval]) (fill_int _ _) ?_; clear hm hS; intro gn w8 hm
                  have hS : Held [(100, Mem w [] [(rc, .cells #[.pointer (some ⟨rb, 0, none⟩)] 103 (0, 0))]), (6, Mem w [] [(rc, .cells #[.pointer (some ⟨rb, 0, none⟩)] 103 (0, 0)), (lb, .cells (letC ⟨(k : Int), (a : Int), p, rq, id, c, i, cap, false, -1, 0, none, 0, 0⟩) 63 (0, 0))])] [] _ := Held.cons (hm.sub (.cons _ (.cons_cons _ (List.nil_sublist _)))) (Held.cons (hm.sub (.cons _ (.cons_cons _ (.cons _ (.cons _ (.cons_cons _ (List.nil_sublist _))))))) (Held.nil _ _))
                  refine hK.out _ _ hS ?_; clear hK K'; (try (simp only [k4, k5, k6, Act.put, k1, k2, k3]))
                  refine wgO (i := 6) (done := [6]) (h := fun K' hK => ?_); refine ow_append_row (R := [_, _, _, _]) (F := intR v) elInt rfl (by decide) (fun _ _ => rfl) HS.out hm rfl rfl (by have := HLen.out; omega) (by have := HLen.out; omega) ?_; clear hm hS; intro sv S2 w9 hS2 hm; obtain ⟨c2, cap2, rfl⟩ := hS2.len HLen2.out
                  have hS : Held [(100, Mem w [] [(rc, .cells #[.pointer (some ⟨rb, 0, none⟩)] 103 (0, 0))]), (6, Mem w [] [(rc, .cells #[.pointer (some ⟨rb, 0, none⟩)] 103 (0, 0)), (lb, .cells (letC ⟨(k : Int), (a : Int), p, rq, id, c, i, cap, false, -1, 0, none, 0, 0⟩) 63 (0, 0))])] [6] _ := Held.cons (hm.sub (.cons_cons _ (List.nil_sublist _))) (Held.skip rfl (Held.nil _ _))
                  refine hK.out _ _ hS ?_; clear hK K'; (try (simp only [k4, k5, k6, Act.put, k1, k2, k3]))
                  refine wgS (i := 7) 0 (hQ := by intro _ _ _ h; exact get_put (by decide) (by decide) h) (hS := hS) (h := ?_); simp only [k4, k5, k6, Act.put, k1, k2, k3]
                  refine wgO (i := 8) (done := [6]) (h := fun K' hK => ?_); refine ow_storeCellE (i := 3) hm rfl rfl rfl rfl sizeIntS (by rw [letC_size]; decide) (set_av _ _ _ _) ?_; clear hm hS; intro w10 hm; simp only [List.cons_append, List.nil_append, k2, k3] at hm
                  have hS : Held [(100, Mem w [] [(rc, .cells #[.pointer (some ⟨rb, 0, none⟩)] 103 (0, 0))]), (6, Mem w [] [(rc, .cells #[.pointer (some ⟨rb, 0, none⟩)] 103 (0, 0)), (lb, .cells (letC ⟨(k : Int), (a : Int), p, rq, id, c, i, cap, false, -1, 0, none, 0, 0⟩) 63 (0, 0))])] [6] _ := Held.cons (hm.sub (.cons_cons _ (List.nil_sublist _))) (Held.skip rfl (Held.nil _ _))
                  refine hK.out _ _ hS ?_; clear hK K' hS; simp only [k4, k5, k6, Act.put, k1, k2, k3]
                  refine wgE (h := ?_)
                  clear hp
                  go_wp2_with ((first | refine wpList_skip (by rfl) ?_ | (refine wlL (hm := hm) (hu := by first | exact undPeer | exact undID | exact undLetter | exact undRd) (hi := by (try simp only [rowOf_size, idC_size, peerC_size, letC_size]); first | exact sizePeer | exact sizeID | exact sizeLetter | exact sizeRd) (h := ?_); (try simp only [Act.put, k1, k2, k3]); (try simp only [← peerV_eq, ← idV_eq, ← letV_eq])) | refine wlLC (hm := hm) (hv := by first | exact let0 _ | exact let1 _ | exact let22 _ | exact let43 _ | exact let44 _ | exact let45 _ | exact let66 _ | rfl) (hu := by first | exact undInt | exact undU64 | exact undBool | exact undIntS | exact undPeerS | exact undStr | exact undRdP | exact undErr) (h := ?_) | (refine yS (hm := hm) (hi := by (try simp only [rowOf_size, idC_size, peerC_size, letC_size]); first | exact sizePeer | exact sizeID | exact sizeLetter | exact sizeRd) (h := ?_); clear hm; intro w1 hm; (try simp only [rowOf_set, set_kind, set_req, set_done, k1, k2, k3, Value.cells, Act.eval, k7, k8, k9, kA, Option.getD_some] at hm)) | (refine wlSM (by rfl) hm (by rfl) (by with_reducible first | exact at0 | exact at1 | exact at2 | exact at3) (by rfl) (by first | rfl | exact idV_eq _ | exact peerV_eq _ _ | exact letV_eq _) (by first | exact peerC_one _ _ | exact idC_one _) (by first | (rw [peerC_size]; exact sizePeer) | (rw [idC_size]; exact sizeID)) (by simp only [rowOf_size, idC_size, peerC_size, letC_size]; decide) (by first | exact mid_from _ _ _ | exact mid_peer _ _ _ | exact mid_id _ _) ?_; clear hm; intro w1 hm; simp only [k2, k3] at hm) | (refine wlSC (hm := hm) (hi := by first | exact sizeInt | exact sizeU64 | exact sizeBool | exact sizeIntS | exact sizePeerS | exact sizeStr | exact sizeRdP | exact sizeErr) (ho := by first | decide | (simp only [rowOf_size, idC_size, peerC_size, letC_size]; omega) | (simp; done)) (h := ?_); clear hm; intro w1 hm; (try simp only [rowOf_set, set_kind, set_req, set_done, k1, k2, k3, Value.cells, Act.eval, k7, k8, k9, kA, Option.getD_some] at hm)) | (refine wlA (hz := by first | exact zeroPeer | exact zeroID | exact zeroLetter | exact zeroRd | exact zeroErr) (hm := hm) (h := ?_); clear hm; intro b1 w1 hm; (try simp only [rowOf_set, set_kind, set_req, set_done, k1, k2, k3, Value.cells, Act.eval, k7, k8, k9, kA, Option.getD_some] at hm)) | (refine wl_box (by rfl) rfl (by first | exact peerV_cells _ _ | exact letV_cells _ | exact idV_cells _ | rfl) hm ?_; clear hm; intro b1 w1 hm) | (refine wl_build (by rfl) (built_rdr _) rfl ?_; (try simp only [Act.put, k1, k2, k3]); (try simp only [← peerV_eq, ← idV_eq, ← letV_eq])) | (with_reducible first | refine stBs ?_ | refine stMs ?_ | refine stAp ?_ | refine stCo ?_)); (try simp only [k4, k5, k6, Act.put, k1, k2, k3]))
                  go_roundw
                  case rel => exact ⟨i + 1, av ++ [v], s7, c2, cap2, S2, HIN.out, by go_num, gMany_ok HG.out HV.out, by rw [List.map_append]; exact hS2, hm⟩
                  case measure => (have := HIN.out; simp [intOf]; try omega)
              · obtain rfl : i = n := by omega
                have e1 : ¬ (i : Int) < (i : Int) := by omega
                have HG := hid hg
                have HS := hid hrow
                clear hi hin hg hrow hn16
                go_wp2_with ((first | refine wpList_skip (by rfl) ?_ | (refine wlL (hm := hm) (hu := by first | exact undPeer | exact undID | exact undLetter | exact undRd) (hi := by (try simp only [rowOf_size, idC_size, peerC_size, letC_size]); first | exact sizePeer | exact sizeID | exact sizeLetter | exact sizeRd) (h := ?_); (try simp only [Act.put, k1, k2, k3]); (try simp only [← peerV_eq, ← idV_eq, ← letV_eq])) | refine wlLC (hm := hm) (hv := by first | exact let0 _ | exact let1 _ | exact let22 _ | exact let43 _ | exact let44 _ | exact let45 _ | exact let66 _ | rfl) (hu := by first | exact undInt | exact undU64 | exact undBool | exact undIntS | exact undPeerS | exact undStr | exact undRdP | exact undErr) (h := ?_) | (refine yS (hm := hm) (hi := by (try simp only [rowOf_size, idC_size, peerC_size, letC_size]); first | exact sizePeer | exact sizeID | exact sizeLetter | exact sizeRd) (h := ?_); clear hm; intro w1 hm; (try simp only [rowOf_set, set_kind, set_req, set_done, k1, k2, k3, Value.cells, Act.eval, k7, k8, k9, kA, Option.getD_some] at hm)) | (refine wlSM (by rfl) hm (by rfl) (by with_reducible first | exact at0 | exact at1 | exact at2 | exact at3) (by rfl) (by first | rfl | exact idV_eq _ | exact peerV_eq _ _ | exact letV_eq _) (by first | exact peerC_one _ _ | exact idC_one _) (by first | (rw [peerC_size]; exact sizePeer) | (rw [idC_size]; exact sizeID)) (by simp only [rowOf_size, idC_size, peerC_size, letC_size]; decide) (by first | exact mid_from _ _ _ | exact mid_peer _ _ _ | exact mid_id _ _) ?_; clear hm; intro w1 hm; simp only [k2, k3] at hm) | (refine wlSC (hm := hm) (hi := by first | exact sizeInt | exact sizeU64 | exact sizeBool | exact sizeIntS | exact sizePeerS | exact sizeStr | exact sizeRdP | exact sizeErr) (ho := by first | decide | (simp only [rowOf_size, idC_size, peerC_size, letC_size]; omega) | (simp; done)) (h := ?_); clear hm; intro w1 hm; (try simp only [rowOf_set, set_kind, set_req, set_done, k1, k2, k3, Value.cells, Act.eval, k7, k8, k9, kA, Option.getD_some] at hm)) | (refine wlA (hz := by first | exact zeroPeer | exact zeroID | exact zeroLetter | exact zeroRd | exact zeroErr) (hm := hm) (h := ?_); clear hm; intro b1 w1 hm; (try simp only [rowOf_set, set_kind, set_req, set_done, k1, k2, k3, Value.cells, Act.eval, k7, k8, k9, kA, Option.getD_some] at hm)) | (refine wl_box (by rfl) rfl (by first | exact peerV_cells _ _ | exact letV_cells _ | exact idV_cells _ | rfl) hm ?_; clear hm; intro b1 w1 hm) | (refine wl_build (by rfl) (built_rdr _) rfl ?_; (try simp only [Act.put, k1, k2, k3]); (try simp only [← peerV_eq, ← idV_eq, ← letV_eq])) | (with_reducible first | refine stBs ?_ | refine stMs ?_ | refine stAp ?_ | refine stCo ?_)); (try simp only [k4, k5, k6, Act.put, k1, k2, k3]))
                go_meet
                exact ⟨av, s6, c, i, cap, S, by simp only [opM_true, H3.out, ok_bind, HG.out], HS.out, hm⟩
      clear hm g2
      obtain ⟨av, s5, ac, an, acap, SA, h3, hrow, hm⟩ := hcut
      have E5 := hid h3
      have HSA := hid hrow
      clear h3 hrow
      go_upto_if 57 with ((first | refine wpList_skip (by rfl) ?_ | (refine wlL (hm := hm) (hu := by first | exact undPeer | exact undID | exact undLetter | exact undRd) (hi := by (try simp only [rowOf_size, idC_size, peerC_size, letC_size]); first | exact sizePeer | exact sizeID | exact sizeLetter | exact sizeRd) (h := ?_); (try simp only [Act.put, k1, k2, k3]); (try simp only [← peerV_eq, ← idV_eq, ← letV_eq])) | refine wlLC (hm := hm) (hv := by first | exact let0 _ | exact let1 _ | exact let22 _ | exact let43 _ | exact let44 _ | exact let45 _ | exact let66 _ | rfl) (hu := by first | exact undInt | exact undU64 | exact undBool | exact undIntS | exact undPeerS | exact undStr | exact undRdP | exact undErr) (h := ?_) | (refine yS (hm := hm) (hi := by (try simp only [rowOf_size, idC_size, peerC_size, letC_size]); first | exact sizePeer | exact sizeID | exact sizeLetter | exact sizeRd) (h := ?_); clear hm; intro w1 hm; (try simp only [rowOf_set, set_kind, set_req, set_done, k1, k2, k3, Value.cells, Act.eval, k7, k8, k9, kA, Option.getD_some] at hm)) | (refine wlSM (by rfl) hm (by rfl) (by with_reducible first | exact at0 | exact at1 | exact at2 | exact at3) (by rfl) (by first | rfl | exact idV_eq _ | exact peerV_eq _ _ | exact letV_eq _) (by first | exact peerC_one _ _ | exact idC_one _) (by first | (rw [peerC_size]; exact sizePeer) | (rw [idC_size]; exact sizeID)) (by simp only [rowOf_size, idC_size, peerC_size, letC_size]; decide) (by first | exact mid_from _ _ _ | exact mid_peer _ _ _ | exact mid_id _ _) ?_; clear hm; intro w1 hm; simp only [k2, k3] at hm) | (refine wlSC (hm := hm) (hi := by first | exact sizeInt | exact sizeU64 | exact sizeBool | exact sizeIntS | exact sizePeerS | exact sizeStr | exact sizeRdP | exact sizeErr) (ho := by first | decide | (simp only [rowOf_size, idC_size, peerC_size, letC_size]; omega) | (simp; done)) (h := ?_); clear hm; intro w1 hm; (try simp only [rowOf_set, set_kind, set_req, set_done, k1, k2, k3, Value.cells, Act.eval, k7, k8, k9, kA, Option.getD_some] at hm)) | (refine wlA (hz := by first | exact zeroPeer | exact zeroID | exact zeroLetter | exact zeroRd | exact zeroErr) (hm := hm) (h := ?_); clear hm; intro b1 w1 hm; (try simp only [rowOf_set, set_kind, set_req, set_done, k1, k2, k3, Value.cells, Act.eval, k7, k8, k9, kA, Option.getD_some] at hm)) | (refine wl_box (by rfl) rfl (by first | exact peerV_cells _ _ | exact letV_cells _ | exact idV_cells _ | rfl) hm ?_; clear hm; intro b1 w1 hm) | (refine wl_build (by rfl) (built_rdr _) rfl ?_; (try simp only [Act.put, k1, k2, k3]); (try simp only [← peerV_eq, ← idV_eq, ← letV_eq])) | (with_reducible first | refine stBs ?_ | refine stMs ?_ | refine stAp ?_ | refine stCo ?_)); (try simp only [k4, k5, k6, Act.put, k1, k2, k3]))
      go_cut [] from 8 to 97 (fun wx => ∃ (d : Nat) (s6 : ByteArray), opN f3 0 1 s5 = .ok (d, s6) ∧ Mem w [] ((rc, .cells #[.pointer (some ⟨rb, 0, none⟩)] 103 (0, 0)) :: (rb, .cells #[.string s6] 76 (0, 0)) :: (eb, .cells #[.int .i64 0] 27 (0, 0)) :: (lb, .cells (letC ⟨(k : Int), (a : Int), p, rq, id, ac, an, acap, (d == 1), -1, 0, none, 0, 0⟩) 63 (0, 0)) :: SA) wx)
      case first =>
        rcases f3 with _ | _
        · go_wp2_with ((first | refine wpList_skip (by rfl) ?_ | (refine wlL (hm := hm) (hu := by first | exact undPeer | exact undID | exact undLetter | exact undRd) (hi := by (try simp only [rowOf_size, idC_size, peerC_size, letC_size]); first | exact sizePeer | exact sizeID | exact sizeLetter | exact sizeRd) (h := ?_); (try simp only [Act.put, k1, k2, k3]); (try simp only [← peerV_eq, ← idV_eq, ← letV_eq])) | refine wlLC (hm := hm) (hv := by first | exact let0 _ | exact let1 _ | exact let22 _ | exact let43 _ | exact let44 _ | exact let45 _ | exact let66 _ | rfl) (hu := by first | exact undInt | exact undU64 | exact undBool | exact undIntS | exact undPeerS | exact undStr | exact undRdP | exact undErr) (h := ?_) | (refine yS (hm := hm) (hi := by (try simp only [rowOf_size, idC_size, peerC_size, letC_size]); first | exact sizePeer | exact sizeID | exact sizeLetter | exact sizeRd) (h := ?_); clear hm; intro w1 hm; (try simp only [rowOf_set, set_kind, set_req, set_done, k1, k2, k3, Value.cells, Act.eval, k7, k8, k9, kA, Option.getD_some] at hm)) | (refine wlSM (by rfl) hm (by rfl) (by with_reducible first | exact at0 | exact at1 | exact at2 | exact at3) (by rfl) (by first | rfl | exact idV_eq _ | exact peerV_eq _ _ | exact letV_eq _) (by first | exact peerC_one _ _ | exact idC_one _) (by first | (rw [peerC_size]; exact sizePeer) | (rw [idC_size]; exact sizeID)) (by simp only [rowOf_size, idC_size, peerC_size, letC_size]; decide) (by first | exact mid_from _ _ _ | exact mid_peer _ _ _ | exact mid_id _ _) ?_; clear hm; intro w1 hm; simp only [k2, k3] at hm) | (refine wlSC (hm := hm) (hi := by first | exact sizeInt | exact sizeU64 | exact sizeBool | exact sizeIntS | exact sizePeerS | exact sizeStr | exact sizeRdP | exact sizeErr) (ho := by first | decide | (simp only [rowOf_size, idC_size, peerC_size, letC_size]; omega) | (simp; done)) (h := ?_); clear hm; intro w1 hm; (try simp only [rowOf_set, set_kind, set_req, set_done, k1, k2, k3, Value.cells, Act.eval, k7, k8, k9, kA, Option.getD_some] at hm)) | (refine wlA (hz := by first | exact zeroPeer | exact zeroID | exact zeroLetter | exact zeroRd | exact zeroErr) (hm := hm) (h := ?_); clear hm; intro b1 w1 hm; (try simp only [rowOf_set, set_kind, set_req, set_done, k1, k2, k3, Value.cells, Act.eval, k7, k8, k9, kA, Option.getD_some] at hm)) | (refine wl_box (by rfl) rfl (by first | exact peerV_cells _ _ | exact letV_cells _ | exact idV_cells _ | rfl) hm ?_; clear hm; intro b1 w1 hm) | (refine wl_build (by rfl) (built_rdr _) rfl ?_; (try simp only [Act.put, k1, k2, k3]); (try simp only [← peerV_eq, ← idV_eq, ← letV_eq])) | (with_reducible first | refine stBs ?_ | refine stMs ?_ | refine stAp ?_ | refine stCo ?_)); (try simp only [k4, k5, k6, Act.put, k1, k2, k3]))
          go_meet
          exact ⟨0, s5, rfl, hm⟩
        · rcases h3 : gN 0 1 s5 with x | ⟨v, s6⟩
          · obtain ⟨r, hp⟩ := gN_x h3 rb (lo' := 0) (hi' := 1) rfl rfl
            have H3 := hid h3
            clear h3
            go_wp2_with ((first | refine wpList_skip (by rfl) ?_ | (refine wlL (hm := hm) (hu := by first | exact undPeer | exact undID | exact undLetter | exact undRd) (hi := by (try simp only [rowOf_size, idC_size, peerC_size, letC_size]); first | exact sizePeer | exact sizeID | exact sizeLetter | exact sizeRd) (h := ?_); (try simp only [Act.put, k1, k2, k3]); (try simp only [← peerV_eq, ← idV_eq, ← letV_eq])) | refine wlLC (hm := hm) (hv := by first | exact let0 _ | exact let1 _ | exact let22 _ | exact let43 _ | exact let44 _ | exact let45 _ | exact let66 _ | rfl) (hu := by first | exact undInt | exact undU64 | exact undBool | exact undIntS | exact undPeerS | exact undStr | exact undRdP | exact undErr) (h := ?_) | (refine yS (hm := hm) (hi := by (try simp only [rowOf_size, idC_size, peerC_size, letC_size]); first | exact sizePeer | exact sizeID | exact sizeLetter | exact sizeRd) (h := ?_); clear hm; intro w1 hm; (try simp only [rowOf_set, set_kind, set_req, set_done, k1, k2, k3, Value.cells, Act.eval, k7, k8, k9, kA, Option.getD_some] at hm)) | (refine wlSM (by rfl) hm (by rfl) (by with_reducible first | exact at0 | exact at1 | exact at2 | exact at3) (by rfl) (by first | rfl | exact idV_eq _ | exact peerV_eq _ _ | exact letV_eq _) (by first | exact peerC_one _ _ | exact idC_one _) (by first | (rw [peerC_size]; exact sizePeer) | (rw [idC_size]; exact sizeID)) (by simp only [rowOf_size, idC_size, peerC_size, letC_size]; decide) (by first | exact mid_from _ _ _ | exact mid_peer _ _ _ | exact mid_id _ _) ?_; clear hm; intro w1 hm; simp only [k2, k3] at hm) | (refine wlSC (hm := hm) (hi := by first | exact sizeInt | exact sizeU64 | exact sizeBool | exact sizeIntS | exact sizePeerS | exact sizeStr | exact sizeRdP | exact sizeErr) (ho := by first | decide | (simp only [rowOf_size, idC_size, peerC_size, letC_size]; omega) | (simp; done)) (h := ?_); clear hm; intro w1 hm; (try simp only [rowOf_set, set_kind, set_req, set_done, k1, k2, k3, Value.cells, Act.eval, k7, k8, k9, kA, Option.getD_some] at hm)) | (refine wlA (hz := by first | exact zeroPeer | exact zeroID | exact zeroLetter | exact zeroRd | exact zeroErr) (hm := hm) (h := ?_); clear hm; intro b1 w1 hm; (try simp only [rowOf_set, set_kind, set_req, set_done, k1, k2, k3, Value.cells, Act.eval, k7, k8, k9, kA, Option.getD_some] at hm)) | (refine wl_box (by rfl) rfl (by first | exact peerV_cells _ _ | exact letV_cells _ | exact idV_cells _ | rfl) hm ?_; clear hm; intro b1 w1 hm) | (refine wl_build (by rfl) (built_rdr _) rfl ?_; (try simp only [Act.put, k1, k2, k3]); (try simp only [← peerV_eq, ← idV_eq, ← letV_eq])) | (go_at_call 73; refine (hp _ (hm.heap (by with_reducible first | exact at0 | exact at1 | exact at2 | exact at3))).mono ?_; rintro e w1 ⟨rfl, hx⟩; replace hm := hm.callAt (by with_reducible first | exact at0 | exact at1 | exact at2 | exact at3) hx; clear hx; simp only [k2, k3] at hm) | (with_reducible first | refine stBs ?_ | refine stMs ?_ | refine stAp ?_ | refine stCo ?_)); (try simp only [k4, k5, k6, Act.put, k1, k2, k3]))
            refine get_pan ?_ hm (letC_size _) rfl rfl rfl rfl rfl
            rw [← HR.out]; unfold getA; simp only [HK.out, HF.out, ok_bind, F0.out, E3.out, F1.out, E4.out, F2.out, E5.out, F3.out, opN_true, H3.out]; rfl
          · have hp := gN_c h3 rb (lo' := 0) (hi' := 1) rfl rfl
            have H3 := hid h3
            obtain ⟨vb, hvb⟩ : ∃ b, ((v : Int) == 1) = b := ⟨_, rfl⟩
            have HVB := hid hvb
            clear h3
            go_wp2_with ((first | refine wpList_skip (by rfl) ?_ | (refine wlL (hm := hm) (hu := by first | exact undPeer | exact undID | exact undLetter | exact undRd) (hi := by (try simp only [rowOf_size, idC_size, peerC_size, letC_size]); first | exact sizePeer | exact sizeID | exact sizeLetter | exact sizeRd) (h := ?_); (try simp only [Act.put, k1, k2, k3]); (try simp only [← peerV_eq, ← idV_eq, ← letV_eq])) | refine wlLC (hm := hm) (hv := by first | exact let0 _ | exact let1 _ | exact let22 _ | exact let43 _ | exact let44 _ | exact let45 _ | exact let66 _ | rfl) (hu := by first | exact undInt | exact undU64 | exact undBool | exact undIntS | exact undPeerS | exact undStr | exact undRdP | exact undErr) (h := ?_) | (refine yS (hm := hm) (hi := by (try simp only [rowOf_size, idC_size, peerC_size, letC_size]); first | exact sizePeer | exact sizeID | exact sizeLetter | exact sizeRd) (h := ?_); clear hm; intro w1 hm; (try simp only [rowOf_set, set_kind, set_req, set_done, k1, k2, k3, Value.cells, Act.eval, k7, k8, k9, kA, Option.getD_some] at hm)) | (refine wlSM (by rfl) hm (by rfl) (by with_reducible first | exact at0 | exact at1 | exact at2 | exact at3) (by rfl) (by first | rfl | exact idV_eq _ | exact peerV_eq _ _ | exact letV_eq _) (by first | exact peerC_one _ _ | exact idC_one _) (by first | (rw [peerC_size]; exact sizePeer) | (rw [idC_size]; exact sizeID)) (by simp only [rowOf_size, idC_size, peerC_size, letC_size]; decide) (by first | exact mid_from _ _ _ | exact mid_peer _ _ _ | exact mid_id _ _) ?_; clear hm; intro w1 hm; simp only [k2, k3] at hm) | (refine wlSC (hm := hm) (hi := by first | exact sizeInt | exact sizeU64 | exact sizeBool | exact sizeIntS | exact sizePeerS | exact sizeStr | exact sizeRdP | exact sizeErr) (ho := by first | decide | (simp only [rowOf_size, idC_size, peerC_size, letC_size]; omega) | (simp; done)) (h := ?_); clear hm; intro w1 hm; (try simp only [rowOf_set, set_kind, set_req, set_done, k1, k2, k3, Value.cells, Act.eval, k7, k8, k9, kA, Option.getD_some] at hm)) | (refine wlA (hz := by first | exact zeroPeer | exact zeroID | exact zeroLetter | exact zeroRd | exact zeroErr) (hm := hm) (h := ?_); clear hm; intro b1 w1 hm; (try simp only [rowOf_set, set_kind, set_req, set_done, k1, k2, k3, Value.cells, Act.eval, k7, k8, k9, kA, Option.getD_some] at hm)) | (refine wl_box (by rfl) rfl (by first | exact peerV_cells _ _ | exact letV_cells _ | exact idV_cells _ | rfl) hm ?_; clear hm; intro b1 w1 hm) | (refine wl_build (by rfl) (built_rdr _) rfl ?_; (try simp only [Act.put, k1, k2, k3]); (try simp only [← peerV_eq, ← idV_eq, ← letV_eq])) | (go_at_call 73; refine (hp _ (hm.heap (by with_reducible first | exact at0 | exact at1 | exact at2 | exact at3))).mono ?_; rintro e w1 ⟨rfl, hx⟩; replace hm := hm.callAt (by with_reducible first | exact at0 | exact at1 | exact at2 | exact at3) hx; clear hx; simp only [k2, k3] at hm) | (with_reducible first | refine stBs ?_ | refine stMs ?_ | refine stAp ?_ | refine stCo ?_)); (try simp only [k4, k5, k6, Act.put, k1, k2, k3]))
            go_meet
            refine ⟨v, s6, H3.out, ?_⟩
            rw [beq_one HVB.out]
            exact hm
      clear hm g3
      obtain ⟨d, s6, h3, hm⟩ := hcut
      have E6 := hid h3
      clear h3
      go_upto_if 64 with ((first | refine wpList_skip (by rfl) ?_ | (refine wlL (hm := hm) (hu := by first | exact undPeer | exact undID | exact undLetter | exact undRd) (hi := by (try simp only [rowOf_size, idC_size, peerC_size, letC_size]); first | exact sizePeer | exact sizeID | exact sizeLetter | exact sizeRd) (h := ?_); (try simp only [Act.put, k1, k2, k3]); (try simp only [← peerV_eq, ← idV_eq, ← letV_eq])) | refine wlLC (hm := hm) (hv := by first | exact let0 _ | exact let1 _ | exact let22 _ | exact let43 _ | exact let44 _ | exact let45 _ | exact let66 _ | rfl) (hu := by first | exact undInt | exact undU64 | exact undBool | exact undIntS | exact undPeerS | exact undStr | exact undRdP | exact undErr) (h := ?_) | (refine yS (hm := hm) (hi := by (try simp only [rowOf_size, idC_size, peerC_size, letC_size]); first | exact sizePeer | exact sizeID | exact sizeLetter | exact sizeRd) (h := ?_); clear hm; intro w1 hm; (try simp only [rowOf_set, set_kind, set_req, set_done, k1, k2, k3, Value.cells, Act.eval, k7, k8, k9, kA, Option.getD_some] at hm)) | (refine wlSM (by rfl) hm (by rfl) (by with_reducible first | exact at0 | exact at1 | exact at2 | exact at3) (by rfl) (by first | rfl | exact idV_eq _ | exact peerV_eq _ _ | exact letV_eq _) (by first | exact peerC_one _ _ | exact idC_one _) (by first | (rw [peerC_size]; exact sizePeer) | (rw [idC_size]; exact sizeID)) (by simp only [rowOf_size, idC_size, peerC_size, letC_size]; decide) (by first | exact mid_from _ _ _ | exact mid_peer _ _ _ | exact mid_id _ _) ?_; clear hm; intro w1 hm; simp only [k2, k3] at hm) | (refine wlSC (hm := hm) (hi := by first | exact sizeInt | exact sizeU64 | exact sizeBool | exact sizeIntS | exact sizePeerS | exact sizeStr | exact sizeRdP | exact sizeErr) (ho := by first | decide | (simp only [rowOf_size, idC_size, peerC_size, letC_size]; omega) | (simp; done)) (h := ?_); clear hm; intro w1 hm; (try simp only [rowOf_set, set_kind, set_req, set_done, k1, k2, k3, Value.cells, Act.eval, k7, k8, k9, kA, Option.getD_some] at hm)) | (refine wlA (hz := by first | exact zeroPeer | exact zeroID | exact zeroLetter | exact zeroRd | exact zeroErr) (hm := hm) (h := ?_); clear hm; intro b1 w1 hm; (try simp only [rowOf_set, set_kind, set_req, set_done, k1, k2, k3, Value.cells, Act.eval, k7, k8, k9, kA, Option.getD_some] at hm)) | (refine wl_box (by rfl) rfl (by first | exact peerV_cells _ _ | exact letV_cells _ | exact idV_cells _ | rfl) hm ?_; clear hm; intro b1 w1 hm) | (refine wl_build (by rfl) (built_rdr _) rfl ?_; (try simp only [Act.put, k1, k2, k3]); (try simp only [← peerV_eq, ← idV_eq, ← letV_eq])) | (with_reducible first | refine stBs ?_ | refine stMs ?_ | refine stAp ?_ | refine stCo ?_)); (try simp only [k4, k5, k6, Act.put, k1, k2, k3]))
      go_cut [7] from 8 to 97 (fun s7 wx => s7 = .int .u64 (lst : Int) ∧ Mem w [] ((rc, .cells #[.pointer (some ⟨rb, 0, none⟩)] 103 (0, 0)) :: (rb, .cells #[.string s6] 76 (0, 0)) :: (eb, .cells #[.int .i64 0] 27 (0, 0)) :: (lb, .cells (letC ⟨(k : Int), (a : Int), p, rq, id, ac, an, acap, (d == 1), -1, 0, none, 0, 0⟩) 63 (0, 0)) :: SA) wx)
      case first =>
        rcases fk with _ | _
        · obtain rfl : lst = 0 := by rw [← HL.out]; exact least_no HGK.out
          go_wp2_with ((first | refine wpList_skip (by rfl) ?_ | (refine wlL (hm := hm) (hu := by first | exact undPeer | exact undID | exact undLetter | exact undRd) (hi := by (try simp only [rowOf_size, idC_size, peerC_size, letC_size]); first | exact sizePeer | exact sizeID | exact sizeLetter | exact sizeRd) (h := ?_); (try simp only [Act.put, k1, k2, k3]); (try simp only [← peerV_eq, ← idV_eq, ← letV_eq])) | refine wlLC (hm := hm) (hv := by first | exact let0 _ | exact let1 _ | exact let22 _ | exact let43 _ | exact let44 _ | exact let45 _ | exact let66 _ | rfl) (hu := by first | exact undInt | exact undU64 | exact undBool | exact undIntS | exact undPeerS | exact undStr | exact undRdP | exact undErr) (h := ?_) | (refine yS (hm := hm) (hi := by (try simp only [rowOf_size, idC_size, peerC_size, letC_size]); first | exact sizePeer | exact sizeID | exact sizeLetter | exact sizeRd) (h := ?_); clear hm; intro w1 hm; (try simp only [rowOf_set, set_kind, set_req, set_done, k1, k2, k3, Value.cells, Act.eval, k7, k8, k9, kA, Option.getD_some] at hm)) | (refine wlSM (by rfl) hm (by rfl) (by with_reducible first | exact at0 | exact at1 | exact at2 | exact at3) (by rfl) (by first | rfl | exact idV_eq _ | exact peerV_eq _ _ | exact letV_eq _) (by first | exact peerC_one _ _ | exact idC_one _) (by first | (rw [peerC_size]; exact sizePeer) | (rw [idC_size]; exact sizeID)) (by simp only [rowOf_size, idC_size, peerC_size, letC_size]; decide) (by first | exact mid_from _ _ _ | exact mid_peer _ _ _ | exact mid_id _ _) ?_; clear hm; intro w1 hm; simp only [k2, k3] at hm) | (refine wlSC (hm := hm) (hi := by first | exact sizeInt | exact sizeU64 | exact sizeBool | exact sizeIntS | exact sizePeerS | exact sizeStr | exact sizeRdP | exact sizeErr) (ho := by first | decide | (simp only [rowOf_size, idC_size, peerC_size, letC_size]; omega) | (simp; done)) (h := ?_); clear hm; intro w1 hm; (try simp only [rowOf_set, set_kind, set_req, set_done, k1, k2, k3, Value.cells, Act.eval, k7, k8, k9, kA, Option.getD_some] at hm)) | (refine wlA (hz := by first | exact zeroPeer | exact zeroID | exact zeroLetter | exact zeroRd | exact zeroErr) (hm := hm) (h := ?_); clear hm; intro b1 w1 hm; (try simp only [rowOf_set, set_kind, set_req, set_done, k1, k2, k3, Value.cells, Act.eval, k7, k8, k9, kA, Option.getD_some] at hm)) | (refine wl_box (by rfl) rfl (by first | exact peerV_cells _ _ | exact letV_cells _ | exact idV_cells _ | rfl) hm ?_; clear hm; intro b1 w1 hm) | (refine wl_build (by rfl) (built_rdr _) rfl ?_; (try simp only [Act.put, k1, k2, k3]); (try simp only [← peerV_eq, ← idV_eq, ← letV_eq])) | (with_reducible first | refine stBs ?_ | refine stMs ?_ | refine stAp ?_ | refine stCo ?_)); (try simp only [k4, k5, k6, Act.put, k1, k2, k3]))
          go_meet
          exact ⟨rfl, hm⟩
        · obtain rfl : lst = 1 := by rw [← HL.out]; exact least_yes HGK.out
          go_wp2_with ((first | refine wpList_skip (by rfl) ?_ | (refine wlL (hm := hm) (hu := by first | exact undPeer | exact undID | exact undLetter | exact undRd) (hi := by (try simp only [rowOf_size, idC_size, peerC_size, letC_size]); first | exact sizePeer | exact sizeID | exact sizeLetter | exact sizeRd) (h := ?_); (try simp only [Act.put, k1, k2, k3]); (try simp only [← peerV_eq, ← idV_eq, ← letV_eq])) | refine wlLC (hm := hm) (hv := by first | exact let0 _ | exact let1 _ | exact let22 _ | exact let43 _ | exact let44 _ | exact let45 _ | exact let66 _ | rfl) (hu := by first | exact undInt | exact undU64 | exact undBool | exact undIntS | exact undPeerS | exact undStr | exact undRdP | exact undErr) (h := ?_) | (refine yS (hm := hm) (hi := by (try simp only [rowOf_size, idC_size, peerC_size, letC_size]); first | exact sizePeer | exact sizeID | exact sizeLetter | exact sizeRd) (h := ?_); clear hm; intro w1 hm; (try simp only [rowOf_set, set_kind, set_req, set_done, k1, k2, k3, Value.cells, Act.eval, k7, k8, k9, kA, Option.getD_some] at hm)) | (refine wlSM (by rfl) hm (by rfl) (by with_reducible first | exact at0 | exact at1 | exact at2 | exact at3) (by rfl) (by first | rfl | exact idV_eq _ | exact peerV_eq _ _ | exact letV_eq _) (by first | exact peerC_one _ _ | exact idC_one _) (by first | (rw [peerC_size]; exact sizePeer) | (rw [idC_size]; exact sizeID)) (by simp only [rowOf_size, idC_size, peerC_size, letC_size]; decide) (by first | exact mid_from _ _ _ | exact mid_peer _ _ _ | exact mid_id _ _) ?_; clear hm; intro w1 hm; simp only [k2, k3] at hm) | (refine wlSC (hm := hm) (hi := by first | exact sizeInt | exact sizeU64 | exact sizeBool | exact sizeIntS | exact sizePeerS | exact sizeStr | exact sizeRdP | exact sizeErr) (ho := by first | decide | (simp only [rowOf_size, idC_size, peerC_size, letC_size]; omega) | (simp; done)) (h := ?_); clear hm; intro w1 hm; (try simp only [rowOf_set, set_kind, set_req, set_done, k1, k2, k3, Value.cells, Act.eval, k7, k8, k9, kA, Option.getD_some] at hm)) | (refine wlA (hz := by first | exact zeroPeer | exact zeroID | exact zeroLetter | exact zeroRd | exact zeroErr) (hm := hm) (h := ?_); clear hm; intro b1 w1 hm; (try simp only [rowOf_set, set_kind, set_req, set_done, k1, k2, k3, Value.cells, Act.eval, k7, k8, k9, kA, Option.getD_some] at hm)) | (refine wl_box (by rfl) rfl (by first | exact peerV_cells _ _ | exact letV_cells _ | exact idV_cells _ | rfl) hm ?_; clear hm; intro b1 w1 hm) | (refine wl_build (by rfl) (built_rdr _) rfl ?_; (try simp only [Act.put, k1, k2, k3]); (try simp only [← peerV_eq, ← idV_eq, ← letV_eq])) | (with_reducible first | refine stBs ?_ | refine stMs ?_ | refine stAp ?_ | refine stCo ?_)); (try simp only [k4, k5, k6, Act.put, k1, k2, k3]))
          go_meet
          exact ⟨rfl, hm⟩
      clear hm gk
      obtain ⟨rfl, hm⟩ := hcut
      go_upto_region 20 with ((first | refine wpList_skip (by rfl) ?_ | (refine wlL (hm := hm) (hu := by first | exact undPeer | exact undID | exact undLetter | exact undRd) (hi := by (try simp only [rowOf_size, idC_size, peerC_size, letC_size]); first | exact sizePeer | exact sizeID | exact sizeLetter | exact sizeRd) (h := ?_); (try simp only [Act.put, k1, k2, k3]); (try simp only [← peerV_eq, ← idV_eq, ← letV_eq])) | refine wlLC (hm := hm) (hv := by first | exact let0 _ | exact let1 _ | exact let22 _ | exact let43 _ | exact let44 _ | exact let45 _ | exact let66 _ | rfl) (hu := by first | exact undInt | exact undU64 | exact undBool | exact undIntS | exact undPeerS | exact undStr | exact undRdP | exact undErr) (h := ?_) | (refine yS (hm := hm) (hi := by (try simp only [rowOf_size, idC_size, peerC_size, letC_size]); first | exact sizePeer | exact sizeID | exact sizeLetter | exact sizeRd) (h := ?_); clear hm; intro w1 hm; (try simp only [rowOf_set, set_kind, set_req, set_done, k1, k2, k3, Value.cells, Act.eval, k7, k8, k9, kA, Option.getD_some] at hm)) | (refine wlSM (by rfl) hm (by rfl) (by with_reducible first | exact at0 | exact at1 | exact at2 | exact at3) (by rfl) (by first | rfl | exact idV_eq _ | exact peerV_eq _ _ | exact letV_eq _) (by first | exact peerC_one _ _ | exact idC_one _) (by first | (rw [peerC_size]; exact sizePeer) | (rw [idC_size]; exact sizeID)) (by simp only [rowOf_size, idC_size, peerC_size, letC_size]; decide) (by first | exact mid_from _ _ _ | exact mid_peer _ _ _ | exact mid_id _ _) ?_; clear hm; intro w1 hm; simp only [k2, k3] at hm) | (refine wlSC (hm := hm) (hi := by first | exact sizeInt | exact sizeU64 | exact sizeBool | exact sizeIntS | exact sizePeerS | exact sizeStr | exact sizeRdP | exact sizeErr) (ho := by first | decide | (simp only [rowOf_size, idC_size, peerC_size, letC_size]; omega) | (simp; done)) (h := ?_); clear hm; intro w1 hm; (try simp only [rowOf_set, set_kind, set_req, set_done, k1, k2, k3, Value.cells, Act.eval, k7, k8, k9, kA, Option.getD_some] at hm)) | (refine wlA (hz := by first | exact zeroPeer | exact zeroID | exact zeroLetter | exact zeroRd | exact zeroErr) (hm := hm) (h := ?_); clear hm; intro b1 w1 hm; (try simp only [rowOf_set, set_kind, set_req, set_done, k1, k2, k3, Value.cells, Act.eval, k7, k8, k9, kA, Option.getD_some] at hm)) | (refine wl_box (by rfl) rfl (by first | exact peerV_cells _ _ | exact letV_cells _ | exact idV_cells _ | rfl) hm ?_; clear hm; intro b1 w1 hm) | (refine wl_build (by rfl) (built_rdr _) rfl ?_; (try simp only [Act.put, k1, k2, k3]); (try simp only [← peerV_eq, ← idV_eq, ← letV_eq])) | (with_reducible first | refine stBs ?_ | refine stMs ?_ | refine stAp ?_ | refine stCo ?_)); (try simp only [k4, k5, k6, Act.put, k1, k2, k3]))
      go_cut [73] from 8 to 97 (fun s73 wx => ∃ (y : Nat) (s7 : ByteArray), opN f4 lst 1 s6 = .ok (y, s7) ∧ s73 = .bool (y == 1) ∧ Mem w [] ((rc, .cells #[.pointer (some ⟨rb, 0, none⟩)] 103 (0, 0)) :: (rb, .cells #[.string s7] 76 (0, 0)) :: (eb, .cells #[.int .i64 0] 27 (0, 0)) :: (lb, .cells (letC ⟨(k : Int), (a : Int), p, rq, id, ac, an, acap, (d == 1), -1, 0, none, 0, 0⟩) 63 (0, 0)) :: SA) wx)
      case first =>
        rcases f4 with _ | _
        · go_wp2_with ((first | refine wpList_skip (by rfl) ?_ | (refine wlL (hm := hm) (hu := by first | exact undPeer | exact undID | exact undLetter | exact undRd) (hi := by (try simp only [rowOf_size, idC_size, peerC_size, letC_size]); first | exact sizePeer | exact sizeID | exact sizeLetter | exact sizeRd) (h := ?_); (try simp only [Act.put, k1, k2, k3]); (try simp only [← peerV_eq, ← idV_eq, ← letV_eq])) | refine wlLC (hm := hm) (hv := by first | exact let0 _ | exact let1 _ | exact let22 _ | exact let43 _ | exact let44 _ | exact let45 _ | exact let66 _ | rfl) (hu := by first | exact undInt | exact undU64 | exact undBool | exact undIntS | exact undPeerS | exact undStr | exact undRdP | exact undErr) (h := ?_) | (refine yS (hm := hm) (hi := by (try simp only [rowOf_size, idC_size, peerC_size, letC_size]); first | exact sizePeer | exact sizeID | exact sizeLetter | exact sizeRd) (h := ?_); clear hm; intro w1 hm; (try simp only [rowOf_set, set_kind, set_req, set_done, k1, k2, k3, Value.cells, Act.eval, k7, k8, k9, kA, Option.getD_some] at hm)) | (refine wlSM (by rfl) hm (by rfl) (by with_reducible first | exact at0 | exact at1 | exact at2 | exact at3) (by rfl) (by first | rfl | exact idV_eq _ | exact peerV_eq _ _ | exact letV_eq _) (by first | exact peerC_one _ _ | exact idC_one _) (by first | (rw [peerC_size]; exact sizePeer) | (rw [idC_size]; exact sizeID)) (by simp only [rowOf_size, idC_size, peerC_size, letC_size]; decide) (by first | exact mid_from _ _ _ | exact mid_peer _ _ _ | exact mid_id _ _) ?_; clear hm; intro w1 hm; simp only [k2, k3] at hm) | (refine wlSC (hm := hm) (hi := by first | exact sizeInt | exact sizeU64 | exact sizeBool | exact sizeIntS | exact sizePeerS | exact sizeStr | exact sizeRdP | exact sizeErr) (ho := by first | decide | (simp only [rowOf_size, idC_size, peerC_size, letC_size]; omega) | (simp; done)) (h := ?_); clear hm; intro w1 hm; (try simp only [rowOf_set, set_kind, set_req, set_done, k1, k2, k3, Value.cells, Act.eval, k7, k8, k9, kA, Option.getD_some] at hm)) | (refine wlA (hz := by first | exact zeroPeer | exact zeroID | exact zeroLetter | exact zeroRd | exact zeroErr) (hm := hm) (h := ?_); clear hm; intro b1 w1 hm; (try simp only [rowOf_set, set_kind, set_req, set_done, k1, k2, k3, Value.cells, Act.eval, k7, k8, k9, kA, Option.getD_some] at hm)) | (refine wl_box (by rfl) rfl (by first | exact peerV_cells _ _ | exact letV_cells _ | exact idV_cells _ | rfl) hm ?_; clear hm; intro b1 w1 hm) | (refine wl_build (by rfl) (built_rdr _) rfl ?_; (try simp only [Act.put, k1, k2, k3]); (try simp only [← peerV_eq, ← idV_eq, ← letV_eq])) | (with_reducible first | refine stBs ?_ | refine stMs ?_ | refine stAp ?_ | refine stCo ?_)); (try simp only [k4, k5, k6, Act.put, k1, k2, k3]))
          go_meet
          exact ⟨0, s6, rfl, rfl, hm⟩
        · rcases h3 : gN lst 1 s6 with x | ⟨v, s7⟩
          · obtain ⟨r, hp⟩ := gN_x h3 rb (lo' := (lst : Int)) (hi' := 1) rfl rfl
            have H3 := hid h3
            clear h3
            go_wp2_with ((first | refine wpList_skip (by rfl) ?_ | (refine wlL (hm := hm) (hu := by first | exact undPeer | exact undID | exact undLetter | exact undRd) (hi := by (try simp only [rowOf_size, idC_size, peerC_size, letC_size]); first | exact sizePeer | exact sizeID | exact sizeLetter | exact sizeRd) (h := ?_); (try simp only [Act.put, k1, k2, k3]); (try simp only [← peerV_eq, ← idV_eq, ← letV_eq])) | refine wlLC (hm := hm) (hv := by first | exact let0 _ | exact let1 _ | exact let22 _ | exact let43 _ | exact let44 _ | exact let45 _ | exact let66 _ | rfl) (hu := by first | exact undInt | exact undU64 | exact undBool | exact undIntS | exact undPeerS | exact undStr | exact undRdP | exact undErr) (h := ?_) | (refine yS (hm := hm) (hi := by (try simp only [rowOf_size, idC_size, peerC_size, letC_size]); first | exact sizePeer | exact sizeID | exact sizeLetter | exact sizeRd) (h := ?_); clear hm; intro w1 hm; (try simp only [rowOf_set, set_kind, set_req, set_done, k1, k2, k3, Value.cells, Act.eval, k7, k8, k9, kA, Option.getD_some] at hm)) | (refine wlSM (by rfl) hm (by rfl) (by with_reducible first | exact at0 | exact at1 | exact at2 | exact at3) (by rfl) (by first | rfl | exact idV_eq _ | exact peerV_eq _ _ | exact letV_eq _) (by first | exact peerC_one _ _ | exact idC_one _) (by first | (rw [peerC_size]; exact sizePeer) | (rw [idC_size]; exact sizeID)) (by simp only [rowOf_size, idC_size, peerC_size, letC_size]; decide) (by first | exact mid_from _ _ _ | exact mid_peer _ _ _ | exact mid_id _ _) ?_; clear hm; intro w1 hm; simp only [k2, k3] at hm) | (refine wlSC (hm := hm) (hi := by first | exact sizeInt | exact sizeU64 | exact sizeBool | exact sizeIntS | exact sizePeerS | exact sizeStr | exact sizeRdP | exact sizeErr) (ho := by first | decide | (simp only [rowOf_size, idC_size, peerC_size, letC_size]; omega) | (simp; done)) (h := ?_); clear hm; intro w1 hm; (try simp only [rowOf_set, set_kind, set_req, set_done, k1, k2, k3, Value.cells, Act.eval, k7, k8, k9, kA, Option.getD_some] at hm)) | (refine wlA (hz := by first | exact zeroPeer | exact zeroID | exact zeroLetter | exact zeroRd | exact zeroErr) (hm := hm) (h := ?_); clear hm; intro b1 w1 hm; (try simp only [rowOf_set, set_kind, set_req, set_done, k1, k2, k3, Value.cells, Act.eval, k7, k8, k9, kA, Option.getD_some] at hm)) | (refine wl_box (by rfl) rfl (by first | exact peerV_cells _ _ | exact letV_cells _ | exact idV_cells _ | rfl) hm ?_; clear hm; intro b1 w1 hm) | (refine wl_build (by rfl) (built_rdr _) rfl ?_; (try simp only [Act.put, k1, k2, k3]); (try simp only [← peerV_eq, ← idV_eq, ← letV_eq])) | (go_at_call 73; refine (hp _ (hm.heap (by with_reducible first | exact at0 | exact at1 | exact at2 | exact at3))).mono ?_; rintro e w1 ⟨rfl, hx⟩; replace hm := hm.callAt (by with_reducible first | exact at0 | exact at1 | exact at2 | exact at3) hx; clear hx; simp only [k2, k3] at hm) | (with_reducible first | refine stBs ?_ | refine stMs ?_ | refine stAp ?_ | refine stCo ?_)); (try simp only [k4, k5, k6, Act.put, k1, k2, k3]))
            refine get_pan ?_ hm (letC_size _) rfl rfl rfl rfl rfl
            rw [← HR.out]; unfold getA; simp only [HK.out, HF.out, ok_bind, F0.out, E3.out, F1.out, E4.out, F2.out, E5.out, F3.out, E6.out, F4.out, HL.out, opN_true, H3.out]; rfl
          · have hp := gN_c h3 rb (lo' := (lst : Int)) (hi' := 1) rfl rfl
            have H3 := hid h3
            obtain ⟨vb, hvb⟩ : ∃ b, ((v : Int) == 1) = b := ⟨_, rfl⟩
            have HVB := hid hvb
            clear h3
            go_wp2_with ((first | refine wpList_skip (by rfl) ?_ | (refine wlL (hm := hm) (hu := by first | exact undPeer | exact undID | exact undLetter | exact undRd) (hi := by (try simp only [rowOf_size, idC_size, peerC_size, letC_size]); first | exact sizePeer | exact sizeID | exact sizeLetter | exact sizeRd) (h := ?_); (try simp only [Act.put, k1, k2, k3]); (try simp only [← peerV_eq, ← idV_eq, ← letV_eq])) | refine wlLC (hm := hm) (hv := by first | exact let0 _ | exact let1 _ | exact let22 _ | exact let43 _ | exact let44 _ | exact let45 _ | exact let66 _ | rfl) (hu := by first | exact undInt | exact undU64 | exact undBool | exact undIntS | exact undPeerS | exact undStr | exact undRdP | exact undErr) (h := ?_) | (refine yS (hm := hm) (hi := by (try simp only [rowOf_size, idC_size, peerC_size, letC_size]); first | exact sizePeer | exact sizeID | exact sizeLetter | exact sizeRd) (h := ?_); clear hm; intro w1 hm; (try simp only [rowOf_set, set_kind, set_req, set_done, k1, k2, k3, Value.cells, Act.eval, k7, k8, k9, kA, Option.getD_some] at hm)) | (refine wlSM (by rfl) hm (by rfl) (by with_reducible first | exact at0 | exact at1 | exact at2 | exact at3) (by rfl) (by first | rfl | exact idV_eq _ | exact peerV_eq _ _ | exact letV_eq _) (by first | exact peerC_one _ _ | exact idC_one _) (by first | (rw [peerC_size]; exact sizePeer) | (rw [idC_size]; exact sizeID)) (by simp only [rowOf_size, idC_size, peerC_size, letC_size]; decide) (by first | exact mid_from _ _ _ | exact mid_peer _ _ _ | exact mid_id _ _) ?_; clear hm; intro w1 hm; simp only [k2, k3] at hm) | (refine wlSC (hm := hm) (hi := by first | exact sizeInt | exact sizeU64 | exact sizeBool | exact sizeIntS | exact sizePeerS | exact sizeStr | exact sizeRdP | exact sizeErr) (ho := by first | decide | (simp only [rowOf_size, idC_size, peerC_size, letC_size]; omega) | (simp; done)) (h := ?_); clear hm; intro w1 hm; (try simp only [rowOf_set, set_kind, set_req, set_done, k1, k2, k3, Value.cells, Act.eval, k7, k8, k9, kA, Option.getD_some] at hm)) | (refine wlA (hz := by first | exact zeroPeer | exact zeroID | exact zeroLetter | exact zeroRd | exact zeroErr) (hm := hm) (h := ?_); clear hm; intro b1 w1 hm; (try simp only [rowOf_set, set_kind, set_req, set_done, k1, k2, k3, Value.cells, Act.eval, k7, k8, k9, kA, Option.getD_some] at hm)) | (refine wl_box (by rfl) rfl (by first | exact peerV_cells _ _ | exact letV_cells _ | exact idV_cells _ | rfl) hm ?_; clear hm; intro b1 w1 hm) | (refine wl_build (by rfl) (built_rdr _) rfl ?_; (try simp only [Act.put, k1, k2, k3]); (try simp only [← peerV_eq, ← idV_eq, ← letV_eq])) | (go_at_call 73; refine (hp _ (hm.heap (by with_reducible first | exact at0 | exact at1 | exact at2 | exact at3))).mono ?_; rintro e w1 ⟨rfl, hx⟩; replace hm := hm.callAt (by with_reducible first | exact at0 | exact at1 | exact at2 | exact at3) hx; clear hx; simp only [k2, k3] at hm) | (with_reducible first | refine stBs ?_ | refine stMs ?_ | refine stAp ?_ | refine stCo ?_)); (try simp only [k4, k5, k6, Act.put, k1, k2, k3]))
            go_meet
            exact ⟨v, s7, H3.out, by rw [beq_one HVB.out], hm⟩
      clear hm g4
      obtain ⟨y, s7, h3, rfl, hm⟩ := hcut
      have E7 := hid h3
      clear h3
      obtain ⟨yb, hyb⟩ : ∃ b, (y == 1) = b := ⟨_, rfl⟩
      have EY := hid hyb
      rw [hyb]
      clear hyb
      go_upto_if 73 with ((first | refine wpList_skip (by rfl) ?_ | (refine wlL (hm := hm) (hu := by first | exact undPeer | exact undID | exact undLetter | exact undRd) (hi := by (try simp only [rowOf_size, idC_size, peerC_size, letC_size]); first | exact sizePeer | exact sizeID | exact sizeLetter | exact sizeRd) (h := ?_); (try simp only [Act.put, k1, k2, k3]); (try simp only [← peerV_eq, ← idV_eq, ← letV_eq])) | refine wlLC (hm := hm) (hv := by first | exact let0 _ | exact let1 _ | exact let22 _ | exact let43 _ | exact let44 _ | exact let45 _ | exact let66 _ | rfl) (hu := by first | exact undInt | exact undU64 | exact undBool | exact undIntS | exact undPeerS | exact undStr | exact undRdP | exact undErr) (h := ?_) | (refine yS (hm := hm) (hi := by (try simp only [rowOf_size, idC_size, peerC_size, letC_size]); first | exact sizePeer | exact sizeID | exact sizeLetter | exact sizeRd) (h := ?_); clear hm; intro w1 hm; (try simp only [rowOf_set, set_kind, set_req, set_done, k1, k2, k3, Value.cells, Act.eval, k7, k8, k9, kA, Option.getD_some] at hm)) | (refine wlSM (by rfl) hm (by rfl) (by with_reducible first | exact at0 | exact at1 | exact at2 | exact at3) (by rfl) (by first | rfl | exact idV_eq _ | exact peerV_eq _ _ | exact letV_eq _) (by first | exact peerC_one _ _ | exact idC_one _) (by first | (rw [peerC_size]; exact sizePeer) | (rw [idC_size]; exact sizeID)) (by simp only [rowOf_size, idC_size, peerC_size, letC_size]; decide) (by first | exact mid_from _ _ _ | exact mid_peer _ _ _ | exact mid_id _ _) ?_; clear hm; intro w1 hm; simp only [k2, k3] at hm) | (refine wlSC (hm := hm) (hi := by first | exact sizeInt | exact sizeU64 | exact sizeBool | exact sizeIntS | exact sizePeerS | exact sizeStr | exact sizeRdP | exact sizeErr) (ho := by first | decide | (simp only [rowOf_size, idC_size, peerC_size, letC_size]; omega) | (simp; done)) (h := ?_); clear hm; intro w1 hm; (try simp only [rowOf_set, set_kind, set_req, set_done, k1, k2, k3, Value.cells, Act.eval, k7, k8, k9, kA, Option.getD_some] at hm)) | (refine wlA (hz := by first | exact zeroPeer | exact zeroID | exact zeroLetter | exact zeroRd | exact zeroErr) (hm := hm) (h := ?_); clear hm; intro b1 w1 hm; (try simp only [rowOf_set, set_kind, set_req, set_done, k1, k2, k3, Value.cells, Act.eval, k7, k8, k9, kA, Option.getD_some] at hm)) | (refine wl_box (by rfl) rfl (by first | exact peerV_cells _ _ | exact letV_cells _ | exact idV_cells _ | rfl) hm ?_; clear hm; intro b1 w1 hm) | (refine wl_build (by rfl) (built_rdr _) rfl ?_; (try simp only [Act.put, k1, k2, k3]); (try simp only [← peerV_eq, ← idV_eq, ← letV_eq])) | (with_reducible first | refine stBs ?_ | refine stMs ?_ | refine stAp ?_ | refine stCo ?_)); (try simp only [k4, k5, k6, Act.put, k1, k2, k3]))
      go_cut [] from 8 to 97 (fun wx => ∃ (q : Int × Nat) (s8 : ByteArray), opP yb s7 = .ok (q, s8) ∧ Mem w [] ((rc, .cells #[.pointer (some ⟨rb, 0, none⟩)] 103 (0, 0)) :: (rb, .cells #[.string s8] 76 (0, 0)) :: (eb, .cells #[.int .i64 0] 27 (0, 0)) :: (lb, .cells (letC ⟨(k : Int), (a : Int), p, rq, id, ac, an, acap, (d == 1), q.1, q.2, none, 0, 0⟩) 63 (0, 0)) :: SA) wx)
      case first =>
        rcases yb with _ | _
        · go_wp2_with ((first | refine wpList_skip (by rfl) ?_ | (refine wlL (hm := hm) (hu := by first | exact undPeer | exact undID | exact undLetter | exact undRd) (hi := by (try simp only [rowOf_size, idC_size, peerC_size, letC_size]); first | exact sizePeer | exact sizeID | exact sizeLetter | exact sizeRd) (h := ?_); (try simp only [Act.put, k1, k2, k3]); (try simp only [← peerV_eq, ← idV_eq, ← letV_eq])) | refine wlLC (hm := hm) (hv := by first | exact let0 _ | exact let1 _ | exact let22 _ | exact let43 _ | exact let44 _ | exact let45 _ | exact let66 _ | rfl) (hu := by first | exact undInt | exact undU64 | exact undBool | exact undIntS | exact undPeerS | exact undStr | exact undRdP | exact undErr) (h := ?_) | (refine yS (hm := hm) (hi := by (try simp only [rowOf_size, idC_size, peerC_size, letC_size]); first | exact sizePeer | exact sizeID | exact sizeLetter | exact sizeRd) (h := ?_); clear hm; intro w1 hm; (try simp only [rowOf_set, set_kind, set_req, set_done, k1, k2, k3, Value.cells, Act.eval, k7, k8, k9, kA, Option.getD_some] at hm)) | (refine wlSM (by rfl) hm (by rfl) (by with_reducible first | exact at0 | exact at1 | exact at2 | exact at3) (by rfl) (by first | rfl | exact idV_eq _ | exact peerV_eq _ _ | exact letV_eq _) (by first | exact peerC_one _ _ | exact idC_one _) (by first | (rw [peerC_size]; exact sizePeer) | (rw [idC_size]; exact sizeID)) (by simp only [rowOf_size, idC_size, peerC_size, letC_size]; decide) (by first | exact mid_from _ _ _ | exact mid_peer _ _ _ | exact mid_id _ _) ?_; clear hm; intro w1 hm; simp only [k2, k3] at hm) | (refine wlSC (hm := hm) (hi := by first | exact sizeInt | exact sizeU64 | exact sizeBool | exact sizeIntS | exact sizePeerS | exact sizeStr | exact sizeRdP | exact sizeErr) (ho := by first | decide | (simp only [rowOf_size, idC_size, peerC_size, letC_size]; omega) | (simp; done)) (h := ?_); clear hm; intro w1 hm; (try simp only [rowOf_set, set_kind, set_req, set_done, k1, k2, k3, Value.cells, Act.eval, k7, k8, k9, kA, Option.getD_some] at hm)) | (refine wlA (hz := by first | exact zeroPeer | exact zeroID | exact zeroLetter | exact zeroRd | exact zeroErr) (hm := hm) (h := ?_); clear hm; intro b1 w1 hm; (try simp only [rowOf_set, set_kind, set_req, set_done, k1, k2, k3, Value.cells, Act.eval, k7, k8, k9, kA, Option.getD_some] at hm)) | (refine wl_box (by rfl) rfl (by first | exact peerV_cells _ _ | exact letV_cells _ | exact idV_cells _ | rfl) hm ?_; clear hm; intro b1 w1 hm) | (refine wl_build (by rfl) (built_rdr _) rfl ?_; (try simp only [Act.put, k1, k2, k3]); (try simp only [← peerV_eq, ← idV_eq, ← letV_eq])) | (with_reducible first | refine stBs ?_ | refine stMs ?_ | refine stAp ?_ | refine stCo ?_)); (try simp only [k4, k5, k6, Act.put, k1, k2, k3]))
          go_meet
          exact ⟨(-1, 0), s7, rfl, hm⟩
        · rcases h3 : gP s7 with x | ⟨⟨va, vp⟩, s8⟩
          · obtain ⟨r, hp⟩ := gP_x h3 rb
            have H3 := hid h3
            clear h3
            go_wp2_with ((first | refine wpList_skip (by rfl) ?_ | (refine wlL (hm := hm) (hu := by first | exact undPeer | exact undID | exact undLetter | exact undRd) (hi := by (try simp only [rowOf_size, idC_size, peerC_size, letC_size]); first | exact sizePeer | exact sizeID | exact sizeLetter | exact sizeRd) (h := ?_); (try simp only [Act.put, k1, k2, k3]); (try simp only [← peerV_eq, ← idV_eq, ← letV_eq])) | refine wlLC (hm := hm) (hv := by first | exact let0 _ | exact let1 _ | exact let22 _ | exact let43 _ | exact let44 _ | exact let45 _ | exact let66 _ | rfl) (hu := by first | exact undInt | exact undU64 | exact undBool | exact undIntS | exact undPeerS | exact undStr | exact undRdP | exact undErr) (h := ?_) | (refine yS (hm := hm) (hi := by (try simp only [rowOf_size, idC_size, peerC_size, letC_size]); first | exact sizePeer | exact sizeID | exact sizeLetter | exact sizeRd) (h := ?_); clear hm; intro w1 hm; (try simp only [rowOf_set, set_kind, set_req, set_done, k1, k2, k3, Value.cells, Act.eval, k7, k8, k9, kA, Option.getD_some] at hm)) | (refine wlSM (by rfl) hm (by rfl) (by with_reducible first | exact at0 | exact at1 | exact at2 | exact at3) (by rfl) (by first | rfl | exact idV_eq _ | exact peerV_eq _ _ | exact letV_eq _) (by first | exact peerC_one _ _ | exact idC_one _) (by first | (rw [peerC_size]; exact sizePeer) | (rw [idC_size]; exact sizeID)) (by simp only [rowOf_size, idC_size, peerC_size, letC_size]; decide) (by first | exact mid_from _ _ _ | exact mid_peer _ _ _ | exact mid_id _ _) ?_; clear hm; intro w1 hm; simp only [k2, k3] at hm) | (refine wlSC (hm := hm) (hi := by first | exact sizeInt | exact sizeU64 | exact sizeBool | exact sizeIntS | exact sizePeerS | exact sizeStr | exact sizeRdP | exact sizeErr) (ho := by first | decide | (simp only [rowOf_size, idC_size, peerC_size, letC_size]; omega) | (simp; done)) (h := ?_); clear hm; intro w1 hm; (try simp only [rowOf_set, set_kind, set_req, set_done, k1, k2, k3, Value.cells, Act.eval, k7, k8, k9, kA, Option.getD_some] at hm)) | (refine wlA (hz := by first | exact zeroPeer | exact zeroID | exact zeroLetter | exact zeroRd | exact zeroErr) (hm := hm) (h := ?_); clear hm; intro b1 w1 hm; (try simp only [rowOf_set, set_kind, set_req, set_done, k1, k2, k3, Value.cells, Act.eval, k7, k8, k9, kA, Option.getD_some] at hm)) | (refine wl_box (by rfl) rfl (by first | exact peerV_cells _ _ | exact letV_cells _ | exact idV_cells _ | rfl) hm ?_; clear hm; intro b1 w1 hm) | (refine wl_build (by rfl) (built_rdr _) rfl ?_; (try simp only [Act.put, k1, k2, k3]); (try simp only [← peerV_eq, ← idV_eq, ← letV_eq])) | (go_at_call 74; refine (hp _ (hm.heap (by with_reducible first | exact at0 | exact at1 | exact at2 | exact at3))).mono ?_; rintro e w1 ⟨rfl, hx⟩; replace hm := hm.callAt (by with_reducible first | exact at0 | exact at1 | exact at2 | exact at3) hx; clear hx; simp only [k2, k3] at hm) | (go_at_call 62; refine (none_c _).mono ?_; rintro e w1 ⟨rfl, hx⟩; replace hm := hm.call hx; clear hx) | (go_at_call 58; refine (hpt _).mono ?_; rintro e w1 ⟨rfl, hx⟩; replace hm := hm.call hx; clear hx) | (with_reducible first | refine stBs ?_ | refine stMs ?_ | refine stAp ?_ | refine stCo ?_)); (try simp only [k4, k5, k6, Act.put, k1, k2, k3]))
            refine get_pan ?_ hm (letC_size _) rfl rfl rfl rfl rfl
            rw [← HR.out]; unfold getA; simp only [HK.out, HF.out, ok_bind, F0.out, E3.out, F1.out, E4.out, F2.out, E5.out, F3.out, E6.out, F4.out, HL.out, E7.out, EY.out, opP_true, H3.out]; rfl
          · have hp := gP_c h3 rb
            have H3 := hid h3
            clear h3
            go_wp2_with ((first | refine wpList_skip (by rfl) ?_ | (refine wlL (hm := hm) (hu := by first | exact undPeer | exact undID | exact undLetter | exact undRd) (hi := by (try simp only [rowOf_size, idC_size, peerC_size, letC_size]); first | exact sizePeer | exact sizeID | exact sizeLetter | exact sizeRd) (h := ?_); (try simp only [Act.put, k1, k2, k3]); (try simp only [← peerV_eq, ← idV_eq, ← letV_eq])) | refine wlLC (hm := hm) (hv := by first | exact let0 _ | exact let1 _ | exact let22 _ | exact let43 _ | exact let44 _ | exact let45 _ | exact let66 _ | rfl) (hu := by first | exact undInt | exact undU64 | exact undBool | exact undIntS | exact undPeerS | exact undStr | exact undRdP | exact undErr) (h := ?_) | (refine yS (hm := hm) (hi := by (try simp only [rowOf_size, idC_size, peerC_size, letC_size]); first | exact sizePeer | exact sizeID | exact sizeLetter | exact sizeRd) (h := ?_); clear hm; intro w1 hm; (try simp only [rowOf_set, set_kind, set_req, set_done, k1, k2, k3, Value.cells, Act.eval, k7, k8, k9, kA, Option.getD_some] at hm)) | (refine wlSM (by rfl) hm (by rfl) (by with_reducible first | exact at0 | exact at1 | exact at2 | exact at3) (by rfl) (by first | rfl | exact idV_eq _ | exact peerV_eq _ _ | exact letV_eq _) (by first | exact peerC_one _ _ | exact idC_one _) (by first | (rw [peerC_size]; exact sizePeer) | (rw [idC_size]; exact sizeID)) (by simp only [rowOf_size, idC_size, peerC_size, letC_size]; decide) (by first | exact mid_from _ _ _ | exact mid_peer _ _ _ | exact mid_id _ _) ?_; clear hm; intro w1 hm; simp only [k2, k3] at hm) | (refine wlSC (hm := hm) (hi := by first | exact sizeInt | exact sizeU64 | exact sizeBool | exact sizeIntS | exact sizePeerS | exact sizeStr | exact sizeRdP | exact sizeErr) (ho := by first | decide | (simp only [rowOf_size, idC_size, peerC_size, letC_size]; omega) | (simp; done)) (h := ?_); clear hm; intro w1 hm; (try simp only [rowOf_set, set_kind, set_req, set_done, k1, k2, k3, Value.cells, Act.eval, k7, k8, k9, kA, Option.getD_some] at hm)) | (refine wlA (hz := by first | exact zeroPeer | exact zeroID | exact zeroLetter | exact zeroRd | exact zeroErr) (hm := hm) (h := ?_); clear hm; intro b1 w1 hm; (try simp only [rowOf_set, set_kind, set_req, set_done, k1, k2, k3, Value.cells, Act.eval, k7, k8, k9, kA, Option.getD_some] at hm)) | (refine wl_box (by rfl) rfl (by first | exact peerV_cells _ _ | exact letV_cells _ | exact idV_cells _ | rfl) hm ?_; clear hm; intro b1 w1 hm) | (refine wl_build (by rfl) (built_rdr _) rfl ?_; (try simp only [Act.put, k1, k2, k3]); (try simp only [← peerV_eq, ← idV_eq, ← letV_eq])) | (go_at_call 74; refine (hp _ (hm.heap (by with_reducible first | exact at0 | exact at1 | exact at2 | exact at3))).mono ?_; rintro e w1 ⟨rfl, hx⟩; replace hm := hm.callAt (by with_reducible first | exact at0 | exact at1 | exact at2 | exact at3) hx; clear hx; simp only [k2, k3] at hm) | (go_at_call 62; refine (none_c _).mono ?_; rintro e w1 ⟨rfl, hx⟩; replace hm := hm.call hx; clear hx) | (go_at_call 58; refine (hpt _).mono ?_; rintro e w1 ⟨rfl, hx⟩; replace hm := hm.call hx; clear hx) | (with_reducible first | refine stBs ?_ | refine stMs ?_ | refine stAp ?_ | refine stCo ?_)); (try simp only [k4, k5, k6, Act.put, k1, k2, k3]))
            go_meet
            exact ⟨((va : Int), vp), s8, by simp only [opP_true, H3.out, ok_bind], hm⟩
      clear hm
      obtain ⟨q, s8, h3, hm⟩ := hcut
      have E8 := hid h3
      clear h3
      go_upto_if 79 with ((first | refine wpList_skip (by rfl) ?_ | (refine wlL (hm := hm) (hu := by first | exact undPeer | exact undID | exact undLetter | exact undRd) (hi := by (try simp only [rowOf_size, idC_size, peerC_size, letC_size]); first | exact sizePeer | exact sizeID | exact sizeLetter | exact sizeRd) (h := ?_); (try simp only [Act.put, k1, k2, k3]); (try simp only [← peerV_eq, ← idV_eq, ← letV_eq])) | refine wlLC (hm := hm) (hv := by first | exact let0 _ | exact let1 _ | exact let22 _ | exact let43 _ | exact let44 _ | exact let45 _ | exact let66 _ | rfl) (hu := by first | exact undInt | exact undU64 | exact undBool | exact undIntS | exact undPeerS | exact undStr | exact undRdP | exact undErr) (h := ?_) | (refine yS (hm := hm) (hi := by (try simp only [rowOf_size, idC_size, peerC_size, letC_size]); first | exact sizePeer | exact sizeID | exact sizeLetter | exact sizeRd) (h := ?_); clear hm; intro w1 hm; (try simp only [rowOf_set, set_kind, set_req, set_done, k1, k2, k3, Value.cells, Act.eval, k7, k8, k9, kA, Option.getD_some] at hm)) | (refine wlSM (by rfl) hm (by rfl) (by with_reducible first | exact at0 | exact at1 | exact at2 | exact at3) (by rfl) (by first | rfl | exact idV_eq _ | exact peerV_eq _ _ | exact letV_eq _) (by first | exact peerC_one _ _ | exact idC_one _) (by first | (rw [peerC_size]; exact sizePeer) | (rw [idC_size]; exact sizeID)) (by simp only [rowOf_size, idC_size, peerC_size, letC_size]; decide) (by first | exact mid_from _ _ _ | exact mid_peer _ _ _ | exact mid_id _ _) ?_; clear hm; intro w1 hm; simp only [k2, k3] at hm) | (refine wlSC (hm := hm) (hi := by first | exact sizeInt | exact sizeU64 | exact sizeBool | exact sizeIntS | exact sizePeerS | exact sizeStr | exact sizeRdP | exact sizeErr) (ho := by first | decide | (simp only [rowOf_size, idC_size, peerC_size, letC_size]; omega) | (simp; done)) (h := ?_); clear hm; intro w1 hm; (try simp only [rowOf_set, set_kind, set_req, set_done, k1, k2, k3, Value.cells, Act.eval, k7, k8, k9, kA, Option.getD_some] at hm)) | (refine wlA (hz := by first | exact zeroPeer | exact zeroID | exact zeroLetter | exact zeroRd | exact zeroErr) (hm := hm) (h := ?_); clear hm; intro b1 w1 hm; (try simp only [rowOf_set, set_kind, set_req, set_done, k1, k2, k3, Value.cells, Act.eval, k7, k8, k9, kA, Option.getD_some] at hm)) | (refine wl_box (by rfl) rfl (by first | exact peerV_cells _ _ | exact letV_cells _ | exact idV_cells _ | rfl) hm ?_; clear hm; intro b1 w1 hm) | (refine wl_build (by rfl) (built_rdr _) rfl ?_; (try simp only [Act.put, k1, k2, k3]); (try simp only [← peerV_eq, ← idV_eq, ← letV_eq])) | (with_reducible first | refine stBs ?_ | refine stMs ?_ | refine stAp ?_ | refine stCo ?_)); (try simp only [k4, k5, k6, Act.put, k1, k2, k3]))
      go_cut [] from 8 to 97 (fun wx => ∃ (av : List (Nat × Nat)) (s9 : ByteArray) (c : Option Addr) (n cap : Nat) (S : List (Nat × Obj)), opM gP f5 8 s8 = .ok (av, s9) ∧ RowSl 60 21 (.slice c n cap) (av.map peerR) S ∧ Mem w [] ((rc, .cells #[.pointer (some ⟨rb, 0, none⟩)] 103 (0, 0)) :: (rb, .cells #[.string s9] 76 (0, 0)) :: (eb, .cells #[.int .i64 0] 27 (0, 0)) :: (lb, .cells (letC ⟨(k : Int), (a : Int), p, rq, id, ac, an, acap, (d == 1), q.1, q.2, c, n, cap⟩) 63 (0, 0)) :: (SA ++ S)) wx)
      case first =>
        rcases f5 with _ | _
        · go_wp2_with ((first | refine wpList_skip (by rfl) ?_ | (refine wlL (hm := hm) (hu := by first | exact undPeer | exact undID | exact undLetter | exact undRd) (hi := by (try simp only [rowOf_size, idC_size, peerC_size, letC_size]); first | exact sizePeer | exact sizeID | exact sizeLetter | exact sizeRd) (h := ?_); (try simp only [Act.put, k1, k2, k3]); (try simp only [← peerV_eq, ← idV_eq, ← letV_eq])) | refine wlLC (hm := hm) (hv := by first | exact let0 _ | exact let1 _ | exact let22 _ | exact let43 _ | exact let44 _ | exact let45 _ | exact let66 _ | rfl) (hu := by first | exact undInt | exact undU64 | exact undBool | exact undIntS | exact undPeerS | exact undStr | exact undRdP | exact undErr) (h := ?_) | (refine yS (hm := hm) (hi := by (try simp only [rowOf_size, idC_size, peerC_size, letC_size]); first | exact sizePeer | exact sizeID | exact sizeLetter | exact sizeRd) (h := ?_); clear hm; intro w1 hm; (try simp only [rowOf_set, set_kind, set_req, set_done, k1, k2, k3, Value.cells, Act.eval, k7, k8, k9, kA, Option.getD_some] at hm)) | (refine wlSM (by rfl) hm (by rfl) (by with_reducible first | exact at0 | exact at1 | exact at2 | exact at3) (by rfl) (by first | rfl | exact idV_eq _ | exact peerV_eq _ _ | exact letV_eq _) (by first | exact peerC_one _ _ | exact idC_one _) (by first | (rw [peerC_size]; exact sizePeer) | (rw [idC_size]; exact sizeID)) (by simp only [rowOf_size, idC_size, peerC_size, letC_size]; decide) (by first | exact mid_from _ _ _ | exact mid_peer _ _ _ | exact mid_id _ _) ?_; clear hm; intro w1 hm; simp only [k2, k3] at hm) | (refine wlSC (hm := hm) (hi := by first | exact sizeInt | exact sizeU64 | exact sizeBool | exact sizeIntS | exact sizePeerS | exact sizeStr | exact sizeRdP | exact sizeErr) (ho := by first | decide | (simp only [rowOf_size, idC_size, peerC_size, letC_size]; omega) | (simp; done)) (h := ?_); clear hm; intro w1 hm; (try simp only [rowOf_set, set_kind, set_req, set_done, k1, k2, k3, Value.cells, Act.eval, k7, k8, k9, kA, Option.getD_some] at hm)) | (refine wlA (hz := by first | exact zeroPeer | exact zeroID | exact zeroLetter | exact zeroRd | exact zeroErr) (hm := hm) (h := ?_); clear hm; intro b1 w1 hm; (try simp only [rowOf_set, set_kind, set_req, set_done, k1, k2, k3, Value.cells, Act.eval, k7, k8, k9, kA, Option.getD_some] at hm)) | (refine wl_box (by rfl) rfl (by first | exact peerV_cells _ _ | exact letV_cells _ | exact idV_cells _ | rfl) hm ?_; clear hm; intro b1 w1 hm) | (refine wl_build (by rfl) (built_rdr _) rfl ?_; (try simp only [Act.put, k1, k2, k3]); (try simp only [← peerV_eq, ← idV_eq, ← letV_eq])) | (with_reducible first | refine stBs ?_ | refine stMs ?_ | refine stAp ?_ | refine stCo ?_)); (try simp only [k4, k5, k6, Act.put, k1, k2, k3]))
          go_meet
          exact ⟨[], s8, none, 0, 0, [], rfl, RowSl.nil _ _, by rw [List.append_nil]; exact hm⟩
        · rcases h3 : gN 0 8 s8 with x | ⟨n, s5⟩
          · obtain ⟨r, hp⟩ := gN_x h3 rb (lo' := 0) (hi' := 8) rfl rfl
            have H3 := hid h3
            clear h3
            go_wp2_with ((first | refine wpList_skip (by rfl) ?_ | (refine wlL (hm := hm) (hu := by first | exact undPeer | exact undID | exact undLetter | exact undRd) (hi := by (try simp only [rowOf_size, idC_size, peerC_size, letC_size]); first | exact sizePeer | exact sizeID | exact sizeLetter | exact sizeRd) (h := ?_); (try simp only [Act.put, k1, k2, k3]); (try simp only [← peerV_eq, ← idV_eq, ← letV_eq])) | refine wlLC (hm := hm) (hv := by first | exact let0 _ | exact let1 _ | exact let22 _ | exact let43 _ | exact let44 _ | exact let45 _ | exact let66 _ | rfl) (hu := by first | exact undInt | exact undU64 | exact undBool | exact undIntS | exact undPeerS | exact undStr | exact undRdP | exact undErr) (h := ?_) | (refine yS (hm := hm) (hi := by (try simp only [rowOf_size, idC_size, peerC_size, letC_size]); first | exact sizePeer | exact sizeID | exact sizeLetter | exact sizeRd) (h := ?_); clear hm; intro w1 hm; (try simp only [rowOf_set, set_kind, set_req, set_done, k1, k2, k3, Value.cells, Act.eval, k7, k8, k9, kA, Option.getD_some] at hm)) | (refine wlSM (by rfl) hm (by rfl) (by with_reducible first | exact at0 | exact at1 | exact at2 | exact at3) (by rfl) (by first | rfl | exact idV_eq _ | exact peerV_eq _ _ | exact letV_eq _) (by first | exact peerC_one _ _ | exact idC_one _) (by first | (rw [peerC_size]; exact sizePeer) | (rw [idC_size]; exact sizeID)) (by simp only [rowOf_size, idC_size, peerC_size, letC_size]; decide) (by first | exact mid_from _ _ _ | exact mid_peer _ _ _ | exact mid_id _ _) ?_; clear hm; intro w1 hm; simp only [k2, k3] at hm) | (refine wlSC (hm := hm) (hi := by first | exact sizeInt | exact sizeU64 | exact sizeBool | exact sizeIntS | exact sizePeerS | exact sizeStr | exact sizeRdP | exact sizeErr) (ho := by first | decide | (simp only [rowOf_size, idC_size, peerC_size, letC_size]; omega) | (simp; done)) (h := ?_); clear hm; intro w1 hm; (try simp only [rowOf_set, set_kind, set_req, set_done, k1, k2, k3, Value.cells, Act.eval, k7, k8, k9, kA, Option.getD_some] at hm)) | (refine wlA (hz := by first | exact zeroPeer | exact zeroID | exact zeroLetter | exact zeroRd | exact zeroErr) (hm := hm) (h := ?_); clear hm; intro b1 w1 hm; (try simp only [rowOf_set, set_kind, set_req, set_done, k1, k2, k3, Value.cells, Act.eval, k7, k8, k9, kA, Option.getD_some] at hm)) | (refine wl_box (by rfl) rfl (by first | exact peerV_cells _ _ | exact letV_cells _ | exact idV_cells _ | rfl) hm ?_; clear hm; intro b1 w1 hm) | (refine wl_build (by rfl) (built_rdr _) rfl ?_; (try simp only [Act.put, k1, k2, k3]); (try simp only [← peerV_eq, ← idV_eq, ← letV_eq])) | (go_at_call 73; refine (hp _ (hm.heap (by with_reducible first | exact at0 | exact at1 | exact at2 | exact at3))).mono ?_; rintro e w1 ⟨rfl, hx⟩; replace hm := hm.callAt (by with_reducible first | exact at0 | exact at1 | exact at2 | exact at3) hx; clear hx; simp only [k2, k3] at hm) | (with_reducible first | refine stBs ?_ | refine stMs ?_ | refine stAp ?_ | refine stCo ?_)); (try simp only [k4, k5, k6, Act.put, k1, k2, k3]))
            refine get_pan ?_ hm (letC_size _) rfl rfl rfl rfl rfl
            rw [← HR.out]; unfold getA; simp only [HK.out, HF.out, ok_bind, F0.out, E3.out, F1.out, E4.out, F2.out, E5.out, F3.out, E6.out, F4.out, HL.out, E7.out, EY.out, E8.out, F5.out, opM_true, H3.out]; rfl
          · have hp := gN_c h3 rb (lo' := 0) (hi' := 8) rfl rfl
            have hn16 : n ≤ 8 := (gN_ok h3).2.2.2.2
            have H3 := hid h3
            clear h3
            go_wp2_with ((first | refine wpList_skip (by rfl) ?_ | (refine wlL (hm := hm) (hu := by first | exact undPeer | exact undID | exact undLetter | exact undRd) (hi := by (try simp only [rowOf_size, idC_size, peerC_size, letC_size]); first | exact sizePeer | exact sizeID | exact sizeLetter | exact sizeRd) (h := ?_); (try simp only [Act.put, k1, k2, k3]); (try simp only [← peerV_eq, ← idV_eq, ← letV_eq])) | refine wlLC (hm := hm) (hv := by first | exact let0 _ | exact let1 _ | exact let22 _ | exact let43 _ | exact let44 _ | exact let45 _ | exact let66 _ | rfl) (hu := by first | exact undInt | exact undU64 | exact undBool | exact undIntS | exact undPeerS | exact undStr | exact undRdP | exact undErr) (h := ?_) | (refine yS (hm := hm) (hi := by (try simp only [rowOf_size, idC_size, peerC_size, letC_size]); first | exact sizePeer | exact sizeID | exact sizeLetter | exact sizeRd) (h := ?_); clear hm; intro w1 hm; (try simp only [rowOf_set, set_kind, set_req, set_done, k1, k2, k3, Value.cells, Act.eval, k7, k8, k9, kA, Option.getD_some] at hm)) | (refine wlSM (by rfl) hm (by rfl) (by with_reducible first | exact at0 | exact at1 | exact at2 | exact at3) (by rfl) (by first | rfl | exact idV_eq _ | exact peerV_eq _ _ | exact letV_eq _) (by first | exact peerC_one _ _ | exact idC_one _) (by first | (rw [peerC_size]; exact sizePeer) | (rw [idC_size]; exact sizeID)) (by simp only [rowOf_size, idC_size, peerC_size, letC_size]; decide) (by first | exact mid_from _ _ _ | exact mid_peer _ _ _ | exact mid_id _ _) ?_; clear hm; intro w1 hm; simp only [k2, k3] at hm) | (refine wlSC (hm := hm) (hi := by first | exact sizeInt | exact sizeU64 | exact sizeBool | exact sizeIntS | exact sizePeerS | exact sizeStr | exact sizeRdP | exact sizeErr) (ho := by first | decide | (simp only [rowOf_size, idC_size, peerC_size, letC_size]; omega) | (simp; done)) (h := ?_); clear hm; intro w1 hm; (try simp only [rowOf_set, set_kind, set_req, set_done, k1, k2, k3, Value.cells, Act.eval, k7, k8, k9, kA, Option.getD_some] at hm)) | (refine wlA (hz := by first | exact zeroPeer | exact zeroID | exact zeroLetter | exact zeroRd | exact zeroErr) (hm := hm) (h := ?_); clear hm; intro b1 w1 hm; (try simp only [rowOf_set, set_kind, set_req, set_done, k1, k2, k3, Value.cells, Act.eval, k7, k8, k9, kA, Option.getD_some] at hm)) | (refine wl_box (by rfl) rfl (by first | exact peerV_cells _ _ | exact letV_cells _ | exact idV_cells _ | rfl) hm ?_; clear hm; intro b1 w1 hm) | (refine wl_build (by rfl) (built_rdr _) rfl ?_; (try simp only [Act.put, k1, k2, k3]); (try simp only [← peerV_eq, ← idV_eq, ← letV_eq])) | (go_at_call 73; refine (hp _ (hm.heap (by with_reducible first | exact at0 | exact at1 | exact at2 | exact at3))).mono ?_; rintro e w1 ⟨rfl, hx⟩; replace hm := hm.callAt (by with_reducible first | exact at0 | exact at1 | exact at2 | exact at3) hx; clear hx; simp only [k2, k3] at hm) | (with_reducible first | refine stBs ?_ | refine stMs ?_ | refine stAp ?_ | refine stCo ?_)); (try simp only [k4, k5, k6, Act.put, k1, k2, k3]))
            clear hp
            go_loopw [82] (fun vi wr => ∃ (i : Nat) (av : List (Nat × Nat)) (s6 : ByteArray) (c : Option Addr) (cap : Nat) (S : List (Nat × Obj)), i ≤ n ∧ vi = .int .u64 (i : Int) ∧ gMany gP i s5 = .ok (av, s6) ∧ RowSl 60 21 (.slice c i cap) (av.map peerR) S ∧ Mem w [] ((rc, .cells #[.pointer (some ⟨rb, 0, none⟩)] 103 (0, 0)) :: (rb, .cells #[.string s6] 76 (0, 0)) :: (eb, .cells #[.int .i64 0] 27 (0, 0)) :: (lb, .cells (letC ⟨(k : Int), (a : Int), p, rq, id, ac, an, acap, (d == 1), q.1, q.2, c, i, cap⟩) 63 (0, 0)) :: (SA ++ S)) wr) (fun vi _ => (n - intOf vi).toNat)
            case atStart => exact ⟨0, [], s5, none, 0, [], by omega, rfl, rfl, RowSl.nil _ _, by rw [List.append_nil]; exact hm⟩
            case round =>
              clear hm
              obtain ⟨i, av, s6, c, cap, S, hi, rfl, hg, hrow, hm⟩ := hrel
              have HLen := hid (show (av.map peerR).length ≤ 16 by rw [List.length_map, gMany_len hg]; omega)
              by_cases hin : i < n
              · have e1 : (i : Int) < (n : Int) := by omega
                have gg : IntKind.u64.wrap ((i : Int) + 1) = (i : Int) + 1 := wrap_u64 (by omega) (by omega)
                have HI := hid hi
                have HIN := hid hin
                have HG := hid hg
                have HS := hid hrow
                have HN := hid hn16
                clear hi hin hg hrow hn16
                rcases hv : gP s6 with x | ⟨v, s7⟩
                · obtain ⟨r, hp⟩ := gP_x hv rb
                  have HV := hid hv
                  clear hv
                  go_wp2_with (with_reducible first | refine stAl ?_ | refine stBo ?_ | refine stLo ?_ | refine stSo ?_ | refine stBu ?_ | refine stBs ?_ | refine stMs ?_ | refine stAp ?_ | refine stCo ?_)
                  refine wp_region_G (C := [(100, Mem w [] [(rc, .cells #[.pointer (some ⟨rb, 0, none⟩)] 103 (0, 0))]), (5, Mem w [] [(rc, .cells #[.pointer (some ⟨rb, 0, none⟩)] 103 (0, 0)), (lb, .cells (letC ⟨(k : Int), (a : Int), p, rq, id, ac, an, acap, (d == 1), q.1, q.2, c, i, cap⟩) 63 (0, 0))])]) (by kernel_rfl) ?_
                  replace hm := hm.drew
                  have hS : Held [(100, Mem w [] [(rc, .cells #[.pointer (some ⟨rb, 0, none⟩)] 103 (0, 0))]), (5, Mem w [] [(rc, .cells #[.pointer (some ⟨rb, 0, none⟩)] 103 (0, 0)), (lb, .cells (letC ⟨(k : Int), (a : Int), p, rq, id, ac, an, acap, (d == 1), q.1, q.2, c, i, cap⟩) 63 (0, 0))])] [] _ := Held.cons (hm.sub (.cons_cons _ (List.nil_sublist _))) (Held.cons (hm.sub (.cons_cons _ (.cons _ (.cons _ (.cons_cons _ (List.nil_sublist _)))))) (Held.nil _ _))
                  refine wgS (i := 0) 0 (hQ := by intro _ _ _ h; exact get_put (by decide) (by decide) h) (hS := hS) (h := ?_); simp only [k4, k5, k6, Act.put, k1, k2, k3]
                  refine wgS (i := 1) 1 (hQ := by intro _ _ _ h; exact get_put (by decide) (by decide) h) (hS := hS) (h1 := ld_cell (i := 1) rfl rfl (let66 _) undPeerS rfl) (h := ?_); simp only [k4, k5, k6, Act.put, k1, k2, k3]
                  refine wgS (i := 2) 0 (hQ := by intro _ _ _ h; exact get_put (by decide) (by decide) h) (hS := hS) (h1 := ld_row (i := 0) rfl rfl undRd rfl (by exact sizeRd)) (h := ?_); simp only [k4, k5, k6, Act.put, k1, k2, k3]
                  refine wgO (i := 3) (done := []) (h := fun K' hK => ?_); go_simp; refine (hp _ (hm.heap (i := 1) rfl)).mono ?_; rintro e w7 ⟨rfl, hx⟩; replace hm := hm.callAt (i := 1) rfl hx; clear hx hS; simp only [k2, k3] at hm
                  refine get_pan ?_ hm (letC_size _) rfl rfl rfl rfl rfl
                  rw [← HR.out]; unfold getA; simp only [HK.out, HF.out, ok_bind, F0.out, E3.out, F1.out, E4.out, F2.out, E5.out, F3.out, E6.out, F4.out, HL.out, E7.out, EY.out, E8.out, F5.out, opM_true, H3.out, gMany_err HG.out HV.out HIN.out]; rfl
                · have hp := gP_c hv rb
                  have HV := hid hv
                  clear hv
                  have HLen2 := hid (show (av.map peerR ++ [peerR v]).length = i + 1 by rw [List.length_append, List.length_map, gMany_len HG.out]; rfl)
                  go_wp2_with (with_reducible first | refine stAl ?_ | refine stBo ?_ | refine stLo ?_ | refine stSo ?_ | refine stBu ?_ | refine stBs ?_ | refine stMs ?_ | refine stAp ?_ | refine stCo ?_)
                  refine wp_region_G (C := [(100, Mem w [] [(rc, .cells #[.pointer (some ⟨rb, 0, none⟩)] 103 (0, 0))]), (5, Mem w [] [(rc, .cells #[.pointer (some ⟨rb, 0, none⟩)] 103 (0, 0)), (lb, .cells (letC ⟨(k : Int), (a : Int), p, rq, id, ac, an, acap, (d == 1), q.1, q.2, c, i, cap⟩) 63 (0, 0))])]) (by kernel_rfl) ?_
                  replace hm := hm.drew
                  have hS : Held [(100, Mem w [] [(rc, .cells #[.pointer (some ⟨rb, 0, none⟩)] 103 (0, 0))]), (5, Mem w [] [(rc, .cells #[.pointer (some ⟨rb, 0, none⟩)] 103 (0, 0)), (lb, .cells (letC ⟨(k : Int), (a : Int), p, rq, id, ac, an, acap, (d == 1), q.1, q.2, c, i, cap⟩) 63 (0, 0))])] [] _ := Held.cons (hm.sub (.cons_cons _ (List.nil_sublist _))) (Held.cons (hm.sub (.cons_cons _ (.cons _ (.cons _ (.cons_cons _ (List.nil_sublist _)))))) (Held.nil _ _))
                  refine wgS (i := 0) 0 (hQ := by intro _ _ _ h; exact get_put (by decide) (by decide) h) (hS := hS) (h := ?_); simp only [k4, k5, k6, Act.put, k1, k2, k3]
                  refine wgS (i := 1) 1 (hQ := by intro _ _ _ h; exact get_put (by decide) (by decide) h) (hS := hS) (h1 := ld_cell (i := 1) rfl rfl (let66 _) undPeerS rfl) (h := ?_); simp only [k4, k5, k6, Act.put, k1, k2, k3]
                  refine wgS (i := 2) 0 (hQ := by intro _ _ _ h; exact get_put (by decide) (by decide) h) (hS := hS) (h1 := ld_row (i := 0) rfl rfl undRd rfl (by exact sizeRd)) (h := ?_); simp only [k4, k5, k6, Act.put, k1, k2, k3]
                  refine wgO (i := 3) (done := []) (h := fun K' hK => ?_); go_simp; refine (hp _ (hm.heap (i := 1) rfl)).mono ?_; rintro e w7 ⟨rfl, hx⟩; replace hm := hm.callAt (i := 1) rfl hx; clear hx hS; simp only [k2, k3] at hm
                  have hS : Held [(100, Mem w [] [(rc, .cells #[.pointer (some ⟨rb, 0, none⟩)] 103 (0, 0))]), (5, Mem w [] [(rc, .cells #[.pointer (some ⟨rb, 0, none⟩)] 103 (0, 0)), (lb, .cells (letC ⟨(k : Int), (a : Int), p, rq, id, ac, an, acap, (d == 1), q.1, q.2, c, i, cap⟩) 63 (0, 0))])] [] _ := Held.cons (hm.sub (.cons_cons _ (List.nil_sublist _))) (Held.cons (hm.sub (.cons_cons _ (.cons _ (.cons _ (.cons_cons _ (List.nil_sublist _)))))) (Held.nil _ _))
                  refine hK.out _ _ hS ?_; clear hK K'; (try (simp only [k4, k5, k6, Act.put, k1, k2, k3]))
                  refine wgO (i := 4) (done := []) (h := fun K' hK => ?_); refine ow_buildSlice (ps := [(0, peerV (v.1 : Int) v.2)]) (cells := rowOf 21 (peerR v)) hm elPeer (by decide) (by decide) (by simp [Act.eval]) (fill_peer _ _) ?_; clear hm hS; intro gn w8 hm
                  have hS : Held [(100, Mem w [] [(rc, .cells #[.pointer (some ⟨rb, 0, none⟩)] 103 (0, 0))]), (5, Mem w [] [(rc, .cells #[.pointer (some ⟨rb, 0, none⟩)] 103 (0, 0)), (lb, .cells (letC ⟨(k : Int), (a : Int), p, rq, id, ac, an, acap, (d == 1), q.1, q.2, c, i, cap⟩) 63 (0, 0))])] [] _ := Held.cons (hm.sub (.cons _ (.cons_cons _ (List.nil_sublist _)))) (Held.cons (hm.sub (.cons _ (.cons_cons _ (.cons _ (.cons _ (.cons_cons _ (List.nil_sublist _))))))) (Held.nil _ _))
                  refine hK.out _ _ hS ?_; clear hK K'; (try (simp only [k4, k5, k6, Act.put, k1, k2, k3]))
                  refine wgO (i := 5) (done := [5]) (h := fun K' hK => ?_); refine ow_append_row (R := (_ :: _ :: _ :: _ :: SA)) (F := peerR v) elPeer (by rw [peerV_cells, peerC_size]) (by decide) (fun _ _ => peerR_one _ _) HS.out hm rfl rfl (by have := HLen.out; omega) (by have := HLen.out; omega) ?_; clear hm hS; intro sv S2 w9 hS2 hm; obtain ⟨c2, cap2, rfl⟩ := hS2.len HLen2.out
                  have hS : Held [(100, Mem w [] [(rc, .cells #[.pointer (some ⟨rb, 0, none⟩)] 103 (0, 0))]), (5, Mem w [] [(rc, .cells #[.pointer (some ⟨rb, 0, none⟩)] 103 (0, 0)), (lb, .cells (letC ⟨(k : Int), (a : Int), p, rq, id, ac, an, acap, (d == 1), q.1, q.2, c, i, cap⟩) 63 (0, 0))])] [5] _ := Held.cons (hm.sub (.cons_cons _ (List.nil_sublist _))) (Held.skip rfl (Held.nil _ _))
                  refine hK.out _ _ hS ?_; clear hK K'; (try (simp only [k4, k5, k6, Act.put, k1, k2, k3]))
                  refine wgS (i := 6) 0 (hQ := by intro _ _ _ h; exact get_put (by decide) (by decide) h) (hS := hS) (h := ?_); simp only [k4, k5, k6, Act.put, k1, k2, k3]
                  refine wgO (i := 7) (done := [5]) (h := fun K' hK => ?_); refine ow_storeCellE (i := 3) hm rfl rfl rfl rfl sizePeerS (by rw [letC_size]; decide) (set_ps _ _ _ _) ?_; clear hm hS; intro w10 hm; simp only [List.cons_append, List.nil_append, k2, k3] at hm
                  have hS : Held [(100, Mem w [] [(rc, .cells #[.pointer (some ⟨rb, 0, none⟩)] 103 (0, 0))]), (5, Mem w [] [(rc, .cells #[.pointer (some ⟨rb, 0, none⟩)] 103 (0, 0)), (lb, .cells (letC ⟨(k : Int), (a : Int), p, rq, id, ac, an, acap, (d == 1), q.1, q.2, c, i, cap⟩) 63 (0, 0))])] [5] _ := Held.cons (hm.sub (.cons_cons _ (List.nil_sublist _))) (Held.skip rfl (Held.nil _ _))
                  refine hK.out _ _ hS ?_; clear hK K' hS; simp only [k4, k5, k6, Act.put, k1, k2, k3]
                  refine wgE (h := ?_)
                  clear hp
                  go_wp2_with ((first | refine wpList_skip (by rfl) ?_ | (refine wlL (hm := hm) (hu := by first | exact undPeer | exact undID | exact undLetter | exact undRd) (hi := by (try simp only [rowOf_size, idC_size, peerC_size, letC_size]); first | exact sizePeer | exact sizeID | exact sizeLetter | exact sizeRd) (h := ?_); (try simp only [Act.put, k1, k2, k3]); (try simp only [← peerV_eq, ← idV_eq, ← letV_eq])) | refine wlLC (hm := hm) (hv := by first | exact let0 _ | exact let1 _ | exact let22 _ | exact let43 _ | exact let44 _ | exact let45 _ | exact let66 _ | rfl) (hu := by first | exact undInt | exact undU64 | exact undBool | exact undIntS | exact undPeerS | exact undStr | exact undRdP | exact undErr) (h := ?_) | (refine yS (hm := hm) (hi := by (try simp only [rowOf_size, idC_size, peerC_size, letC_size]); first | exact sizePeer | exact sizeID | exact sizeLetter | exact sizeRd) (h := ?_); clear hm; intro w1 hm; (try simp only [rowOf_set, set_kind, set_req, set_done, k1, k2, k3, Value.cells, Act.eval, k7, k8, k9, kA, Option.getD_some] at hm)) | (refine wlSM (by rfl) hm (by rfl) (by with_reducible first | exact at0 | exact at1 | exact at2 | exact at3) (by rfl) (by first | rfl | exact idV_eq _ | exact peerV_eq _ _ | exact letV_eq _) (by first | exact peerC_one _ _ | exact idC_one _) (by first | (rw [peerC_size]; exact sizePeer) | (rw [idC_size]; exact sizeID)) (by simp only [rowOf_size, idC_size, peerC_size, letC_size]; decide) (by first | exact mid_from _ _ _ | exact mid_peer _ _ _ | exact mid_id _ _) ?_; clear hm; intro w1 hm; simp only [k2, k3] at hm) | (refine wlSC (hm := hm) (hi := by first | exact sizeInt | exact sizeU64 | exact sizeBool | exact sizeIntS | exact sizePeerS | exact sizeStr | exact sizeRdP | exact sizeErr) (ho := by first | decide | (simp only [rowOf_size, idC_size, peerC_size, letC_size]; omega) | (simp; done)) (h := ?_); clear hm; intro w1 hm; (try simp only [rowOf_set, set_kind, set_req, set_done, k1, k2, k3, Value.cells, Act.eval, k7, k8, k9, kA, Option.getD_some] at hm)) | (refine wlA (hz := by first | exact zeroPeer | exact zeroID | exact zeroLetter | exact zeroRd | exact zeroErr) (hm := hm) (h := ?_); clear hm; intro b1 w1 hm; (try simp only [rowOf_set, set_kind, set_req, set_done, k1, k2, k3, Value.cells, Act.eval, k7, k8, k9, kA, Option.getD_some] at hm)) | (refine wl_box (by rfl) rfl (by first | exact peerV_cells _ _ | exact letV_cells _ | exact idV_cells _ | rfl) hm ?_; clear hm; intro b1 w1 hm) | (refine wl_build (by rfl) (built_rdr _) rfl ?_; (try simp only [Act.put, k1, k2, k3]); (try simp only [← peerV_eq, ← idV_eq, ← letV_eq])) | (with_reducible first | refine stBs ?_ | refine stMs ?_ | refine stAp ?_ | refine stCo ?_)); (try simp only [k4, k5, k6, Act.put, k1, k2, k3]))
                  go_roundw
                  case rel => exact ⟨i + 1, av ++ [v], s7, c2, cap2, S2, HIN.out, by go_num, gMany_ok HG.out HV.out, by rw [List.map_append]; exact hS2, hm⟩
                  case measure => (have := HIN.out; simp [intOf]; try omega)
              · obtain rfl : i = n := by omega
                have e1 : ¬ (i : Int) < (i : Int) := by omega
                have HG := hid hg
                have HS := hid hrow
                clear hi hin hg hrow hn16
                go_wp2_with ((first | refine wpList_skip (by rfl) ?_ | (refine wlL (hm := hm) (hu := by first | exact undPeer | exact undID | exact undLetter | exact undRd) (hi := by (try simp only [rowOf_size, idC_size, peerC_size, letC_size]); first | exact sizePeer | exact sizeID | exact sizeLetter | exact sizeRd) (h := ?_); (try simp only [Act.put, k1, k2, k3]); (try simp only [← peerV_eq, ← idV_eq, ← letV_eq])) | refine wlLC (hm := hm) (hv := by first | exact let0 _ | exact let1 _ | exact let22 _ | exact let43 _ | exact let44 _ | exact let45 _ | exact let66 _ | rfl) (hu := by first | exact undInt | exact undU64 | exact undBool | exact undIntS | exact undPeerS | exact undStr | exact undRdP | exact undErr) (h := ?_) | (refine yS (hm := hm) (hi := by (try simp only [rowOf_size, idC_size, peerC_size, letC_size]); first | exact sizePeer | exact sizeID | exact sizeLetter | exact sizeRd) (h := ?_); clear hm; intro w1 hm; (try simp only [rowOf_set, set_kind, set_req, set_done, k1, k2, k3, Value.cells, Act.eval, k7, k8, k9, kA, Option.getD_some] at hm)) | (refine wlSM (by rfl) hm (by rfl) (by with_reducible first | exact at0 | exact at1 | exact at2 | exact at3) (by rfl) (by first | rfl | exact idV_eq _ | exact peerV_eq _ _ | exact letV_eq _) (by first | exact peerC_one _ _ | exact idC_one _) (by first | (rw [peerC_size]; exact sizePeer) | (rw [idC_size]; exact sizeID)) (by simp only [rowOf_size, idC_size, peerC_size, letC_size]; decide) (by first | exact mid_from _ _ _ | exact mid_peer _ _ _ | exact mid_id _ _) ?_; clear hm; intro w1 hm; simp only [k2, k3] at hm) | (refine wlSC (hm := hm) (hi := by first | exact sizeInt | exact sizeU64 | exact sizeBool | exact sizeIntS | exact sizePeerS | exact sizeStr | exact sizeRdP | exact sizeErr) (ho := by first | decide | (simp only [rowOf_size, idC_size, peerC_size, letC_size]; omega) | (simp; done)) (h := ?_); clear hm; intro w1 hm; (try simp only [rowOf_set, set_kind, set_req, set_done, k1, k2, k3, Value.cells, Act.eval, k7, k8, k9, kA, Option.getD_some] at hm)) | (refine wlA (hz := by first | exact zeroPeer | exact zeroID | exact zeroLetter | exact zeroRd | exact zeroErr) (hm := hm) (h := ?_); clear hm; intro b1 w1 hm; (try simp only [rowOf_set, set_kind, set_req, set_done, k1, k2, k3, Value.cells, Act.eval, k7, k8, k9, kA, Option.getD_some] at hm)) | (refine wl_box (by rfl) rfl (by first | exact peerV_cells _ _ | exact letV_cells _ | exact idV_cells _ | rfl) hm ?_; clear hm; intro b1 w1 hm) | (refine wl_build (by rfl) (built_rdr _) rfl ?_; (try simp only [Act.put, k1, k2, k3]); (try simp only [← peerV_eq, ← idV_eq, ← letV_eq])) | (with_reducible first | refine stBs ?_ | refine stMs ?_ | refine stAp ?_ | refine stCo ?_)); (try simp only [k4, k5, k6, Act.put, k1, k2, k3]))
                go_meet
                exact ⟨av, s6, c, i, cap, S, by simp only [opM_true, H3.out, ok_bind, HG.out], HS.out, hm⟩
      clear hm g5
      obtain ⟨ps, s9, pc, pn, pcap, SP, h3, hrow, hm⟩ := hcut
      have E9 := hid h3
      have HSP := hid hrow
      clear h3 hrow
      obtain ⟨m, hm9⟩ : ∃ m, s9.size = m := ⟨_, rfl⟩
      have hp := left_c rb s9 m hm9
      have HM := hid hm9
      clear hm9
      by_cases hz : 0 < m
      · have e1 : (0 : Int) < (m : Int) := by omega
        go_wp2_with ((first | refine wpList_skip (by rfl) ?_ | (refine wlL (hm := hm) (hu := by first | exact undPeer | exact undID | exact undLetter | exact undRd) (hi := by (try simp only [rowOf_size, idC_size, peerC_size, letC_size]); first | exact sizePeer | exact sizeID | exact sizeLetter | exact sizeRd) (h := ?_); (try simp only [Act.put, k1, k2, k3]); (try simp only [← peerV_eq, ← idV_eq, ← letV_eq])) | refine wlLC (hm := hm) (hv := by first | exact let0 _ | exact let1 _ | exact let22 _ | exact let43 _ | exact let44 _ | exact let45 _ | exact let66 _ | rfl) (hu := by first | exact undInt | exact undU64 | exact undBool | exact undIntS | exact undPeerS | exact undStr | exact undRdP | exact undErr) (h := ?_) | (refine yS (hm := hm) (hi := by (try simp only [rowOf_size, idC_size, peerC_size, letC_size]); first | exact sizePeer | exact sizeID | exact sizeLetter | exact sizeRd) (h := ?_); clear hm; intro w1 hm; (try simp only [rowOf_set, set_kind, set_req, set_done, k1, k2, k3, Value.cells, Act.eval, k7, k8, k9, kA, Option.getD_some] at hm)) | (refine wlSM (by rfl) hm (by rfl) (by with_reducible first | exact at0 | exact at1 | exact at2 | exact at3) (by rfl) (by first | rfl | exact idV_eq _ | exact peerV_eq _ _ | exact letV_eq _) (by first | exact peerC_one _ _ | exact idC_one _) (by first | (rw [peerC_size]; exact sizePeer) | (rw [idC_size]; exact sizeID)) (by simp only [rowOf_size, idC_size, peerC_size, letC_size]; decide) (by first | exact mid_from _ _ _ | exact mid_peer _ _ _ | exact mid_id _ _) ?_; clear hm; intro w1 hm; simp only [k2, k3] at hm) | (refine wlSC (hm := hm) (hi := by first | exact sizeInt | exact sizeU64 | exact sizeBool | exact sizeIntS | exact sizePeerS | exact sizeStr | exact sizeRdP | exact sizeErr) (ho := by first | decide | (simp only [rowOf_size, idC_size, peerC_size, letC_size]; omega) | (simp; done)) (h := ?_); clear hm; intro w1 hm; (try simp only [rowOf_set, set_kind, set_req, set_done, k1, k2, k3, Value.cells, Act.eval, k7, k8, k9, kA, Option.getD_some] at hm)) | (refine wlA (hz := by first | exact zeroPeer | exact zeroID | exact zeroLetter | exact zeroRd | exact zeroErr) (hm := hm) (h := ?_); clear hm; intro b1 w1 hm; (try simp only [rowOf_set, set_kind, set_req, set_done, k1, k2, k3, Value.cells, Act.eval, k7, k8, k9, kA, Option.getD_some] at hm)) | (refine wl_box (by rfl) rfl (by first | exact peerV_cells _ _ | exact letV_cells _ | exact idV_cells _ | rfl) hm ?_; clear hm; intro b1 w1 hm) | (refine wl_build (by rfl) (built_rdr _) rfl ?_; (try simp only [Act.put, k1, k2, k3]); (try simp only [← peerV_eq, ← idV_eq, ← letV_eq])) | (go_at_call 27; refine (hp _ (hm.heap (by with_reducible first | exact at0 | exact at1 | exact at2 | exact at3))).mono ?_; rintro e w1 ⟨rfl, hx⟩; replace hm := hm.callAt (by with_reducible first | exact at0 | exact at1 | exact at2 | exact at3) hx; clear hx; simp only [k2, k3] at hm) | (with_reducible first | refine stBs ?_ | refine stMs ?_ | refine stAp ?_ | refine stCo ?_)); (try simp only [k4, k5, k6, Act.put, k1, k2, k3]))
        refine get_pan (x := 3) ?_ hm (letC_size _) rfl rfl rfl rfl rfl
        rw [← HR.out]; unfold getA; simp only [HK.out, HF.out, ok_bind, F0.out, E3.out, F1.out, E4.out, F2.out, E5.out, F3.out, E6.out, F4.out, HL.out, E7.out, EY.out, E8.out, F5.out, E9.out, HM.out, if_pos hz]
      · obtain rfl : m = 0 := by omega
        clear hz
        go_wp2_with ((first | refine wpList_skip (by rfl) ?_ | (refine wlL (hm := hm) (hu := by first | exact undPeer | exact undID | exact undLetter | exact undRd) (hi := by (try simp only [rowOf_size, idC_size, peerC_size, letC_size]); first | exact sizePeer | exact sizeID | exact sizeLetter | exact sizeRd) (h := ?_); (try simp only [Act.put, k1, k2, k3]); (try simp only [← peerV_eq, ← idV_eq, ← letV_eq])) | refine wlLC (hm := hm) (hv := by first | exact let0 _ | exact let1 _ | exact let22 _ | exact let43 _ | exact let44 _ | exact let45 _ | exact let66 _ | rfl) (hu := by first | exact undInt | exact undU64 | exact undBool | exact undIntS | exact undPeerS | exact undStr | exact undRdP | exact undErr) (h := ?_) | (refine yS (hm := hm) (hi := by (try simp only [rowOf_size, idC_size, peerC_size, letC_size]); first | exact sizePeer | exact sizeID | exact sizeLetter | exact sizeRd) (h := ?_); clear hm; intro w1 hm; (try simp only [rowOf_set, set_kind, set_req, set_done, k1, k2, k3, Value.cells, Act.eval, k7, k8, k9, kA, Option.getD_some] at hm)) | (refine wlSM (by rfl) hm (by rfl) (by with_reducible first | exact at0 | exact at1 | exact at2 | exact at3) (by rfl) (by first | rfl | exact idV_eq _ | exact peerV_eq _ _ | exact letV_eq _) (by first | exact peerC_one _ _ | exact idC_one _) (by first | (rw [peerC_size]; exact sizePeer) | (rw [idC_size]; exact sizeID)) (by simp only [rowOf_size, idC_size, peerC_size, letC_size]; decide) (by first | exact mid_from _ _ _ | exact mid_peer _ _ _ | exact mid_id _ _) ?_; clear hm; intro w1 hm; simp only [k2, k3] at hm) | (refine wlSC (hm := hm) (hi := by first | exact sizeInt | exact sizeU64 | exact sizeBool | exact sizeIntS | exact sizePeerS | exact sizeStr | exact sizeRdP | exact sizeErr) (ho := by first | decide | (simp only [rowOf_size, idC_size, peerC_size, letC_size]; omega) | (simp; done)) (h := ?_); clear hm; intro w1 hm; (try simp only [rowOf_set, set_kind, set_req, set_done, k1, k2, k3, Value.cells, Act.eval, k7, k8, k9, kA, Option.getD_some] at hm)) | (refine wlA (hz := by first | exact zeroPeer | exact zeroID | exact zeroLetter | exact zeroRd | exact zeroErr) (hm := hm) (h := ?_); clear hm; intro b1 w1 hm; (try simp only [rowOf_set, set_kind, set_req, set_done, k1, k2, k3, Value.cells, Act.eval, k7, k8, k9, kA, Option.getD_some] at hm)) | (refine wl_box (by rfl) rfl (by first | exact peerV_cells _ _ | exact letV_cells _ | exact idV_cells _ | rfl) hm ?_; clear hm; intro b1 w1 hm) | (refine wl_build (by rfl) (built_rdr _) rfl ?_; (try simp only [Act.put, k1, k2, k3]); (try simp only [← peerV_eq, ← idV_eq, ← letV_eq])) | (go_at_call 27; refine (hp _ (hm.heap (by with_reducible first | exact at0 | exact at1 | exact at2 | exact at3))).mono ?_; rintro e w1 ⟨rfl, hx⟩; replace hm := hm.callAt (by with_reducible first | exact at0 | exact at1 | exact at2 | exact at3) hx; clear hx; simp only [k2, k3] at hm) | (with_reducible first | refine stBs ?_ | refine stMs ?_ | refine stAp ?_ | refine stCo ?_)); (try simp only [k4, k5, k6, Act.put, k1, k2, k3]))
        have hA := ints_of_row HSA.out (A := [_, _, _, _]) (B := SP) hm
        have hP := peers_of_row HSP.out (A := _ :: _ :: _ :: _ :: SA) (B := []) (by rw [List.append_nil]; exact hm)
        refine ⟨lb, eb, _, rfl, rfl, rfl, hm, _, ⟨k, a, p, rq, id, av, d == 1, q.1, q.2, ps⟩, ?_, rfl, rfl, SA ++ SP, .cons _ (.cons _ (.cons _ (.cons _ (.refl _)))), ?_⟩
        · rw [← HR.out]; unfold getA; simp only [HK.out, HF.out, ok_bind, F0.out, E3.out, F1.out, E4.out, F2.out, E5.out, F3.out, E6.out, F4.out, HL.out, E7.out, EY.out, E8.out, F5.out, E9.out, HM.out]; rfl
        · exact ⟨rfl, rfl, rfl, rfl, rfl, hA.1, rfl, rfl, rfl, hP.1, SA, SP, rfl, HSA.out, HSP.out⟩
end Go.Proofs.Ytijkmbebfodhdaa

/- (LetT) -/
namespace Go.Proofs.Ytijkmbebfodhdaa
set_option linter.unusedSimpArgs false
set_option linter.unusedVariables false
set_option maxRecDepth 20000
/-! ### Bytes -/
theorem byteOf_app (a b : ByteArray) (j : Nat) : byteOf (a ++ b) j = if j < a.size then byteOf a j else byteOf b (j - a.size) := by
  unfold byteOf
  rw [ByteArray.data_append, Array.toList_append, List.getElem?_append]
  have e : a.data.toList.length = a.size := by rw [Array.length_toList]; rfl
  rw [e]
  split <;> rfl
theorem byteOf_B {n : Nat} {f : Nat → Nat} {j : Nat} (hj : j < n) (hf : f j < 256) : byteOf (bytesB n f) j = f j := by
  unfold byteOf
  rw [bytesB_get hj]
  simp only [Option.getD_some, UInt8.toNat_ofNat']
  omega
theorem app_split {t u c d : ByteArray} (h : t ++ u = c ++ d) : (∃ x, c = t ++ x ∧ u = x ++ d) ∨ ∃ x, t = c ++ x ∧ d = x ++ u := by
  have h' := congrArg (fun s : ByteArray => s.data.toList) h
  simp only [ByteArray.data_append, Array.toList_append] at h'
  have key : ∀ (a b : ByteArray) (l : List UInt8), a.data.toList = b.data.toList ++ l → a = b ++ ⟨l.toArray⟩ := fun a b l e => by
    apply ByteArray.ext
    apply Array.toList_inj.1
    rw [ByteArray.data_append, Array.toList_append, e]
  have key2 : ∀ (a b : ByteArray) (l : List UInt8), a.data.toList = l ++ b.data.toList → a = ⟨l.toArray⟩ ++ b := fun a b l e => by
    apply ByteArray.ext
    apply Array.toList_inj.1
    rw [ByteArray.data_append, Array.toList_append, e]
  rcases List.append_eq_append_iff.1 h' with ⟨l, h1, h2⟩ | ⟨l, h1, h2⟩
  · exact .inl ⟨⟨l.toArray⟩, key c t l h1, key2 u d l h2⟩
  · exact .inr ⟨⟨l.toArray⟩, key t c l h1, key2 d u l h2⟩
theorem bempty {a : ByteArray} (h : a.size = 0) : a = ByteArray.empty := ByteArray.ext (Array.eq_empty_of_size_eq_zero h)
@[irreducible] def PP : Nat := 256 ^ 20
theorem numOf_mod (p : Nat) (f : Nat → Nat) (hf : ∀ j, j < 20 → f j = dig p j) : ∀ k, k ≤ 20 → numOf f k = p / 256 ^ (20 - k) % 256 ^ k
  | 0, _ => by rw [numOf, Nat.pow_zero, Nat.mod_one]
  | k + 1, h => by
    rw [numOf, numOf_mod p f hf k (by omega), hf k (by omega)]
    unfold dig
    rw [show 20 - k = (19 - k) + 1 by omega, show 20 - (k + 1) = 19 - k by omega, Nat.pow_succ 256 (19 - k), ← Nat.div_div_eq_div_mul, Nat.pow_succ 256 k, Nat.mul_comm (256 ^ k) 256, Nat.mod_mul]
    exact Nat.add_comm _ _
theorem numOf_PP {p : Nat} {f : Nat → Nat} (hf : ∀ j, j < 20 → f j = dig p j) : numOf f 20 = p % PP := by
  rw [numOf_mod p f hf 20 (Nat.le_refl _)]
  unfold PP
  rw [Nat.sub_self, Nat.pow_zero, Nat.div_one]
theorem dig_mod (p : Nat) {j : Nat} (hj : j < 20) : dig (p % PP) j = dig p j := by
  rw [← numOf_PP (p := p) (f := dig p) fun _ _ => rfl]
  have := numOf_dig (dig p) (dig_lt p) 20 j hj
  unfold dig at this ⊢
  rw [show 19 - j = 20 - 1 - j by omega]
  exact this
/-- A place's bytes. -/
def plcB (p : Nat) : ByteArray := bytesB 20 (dig p)
theorem plcB_mod (p : Nat) : plcB (p % PP) = plcB p := bytesB_congr fun j hj => dig_mod p hj
theorem plcB_size (p : Nat) : (plcB p).size = 20 := bytesB_size _ _
theorem numB_size (v : Nat) : (numB v).size = nB v + 1 := bytesB_size _ _
/-! ### What is put is read; cut short it ends ahead -/
def Rd {α : Type} (g : ByteArray → Except Nat (α × ByteArray)) (c : ByteArray) (v : α) : Prop := (∀ X, g (c ++ X) = .ok (v, X)) ∧ ∀ t u, t ++ u = c → 0 < u.size → g t = .error 4
theorem bind_ok {α β : Type} (a : α) (f : α → Except Nat β) : (Except.ok a >>= f) = f a := rfl
theorem bind_er {α β : Type} (x : Nat) (f : α → Except Nat β) : ((Except.error x : Except Nat α) >>= f) = .error x := rfl
theorem bind_as {α β γ : Type} (x : Except Nat α) (f : α → Except Nat β) (g : β → Except Nat γ) : ((x >>= f) >>= g) = x >>= fun a => f a >>= g := by cases x <;> rfl
theorem Rd.bind {α β : Type} {g : ByteArray → Except Nat (α × ByteArray)} {F : α × ByteArray → Except Nat (β × ByteArray)} {c d : ByteArray} {v : α} {x : β} (h1 : Rd g c v) (h2 : Rd (fun s => F (v, s)) d x) : Rd (fun s => g s >>= F) (c ++ d) x := by
  refine ⟨fun X => ?_, fun t u e hu => ?_⟩
  · show (g (c ++ d ++ X) >>= F) = _
    rw [ByteArray.append_assoc, h1.1, bind_ok]
    exact h2.1 X
  · show (g t >>= F) = _
    rcases app_split e with ⟨y, hc, hy⟩ | ⟨y, ht, hd⟩
    · rcases Nat.eq_zero_or_pos y.size with h0 | h0
      · obtain rfl := bempty h0
        rw [ByteArray.empty_append] at hy
        have e2 : t = c ++ ByteArray.empty := by rw [ByteArray.append_empty, hc, ByteArray.append_empty]
        rw [e2, h1.1, bind_ok]
        exact h2.2 _ u (by rw [ByteArray.empty_append]; exact hy) hu
      · rw [h1.2 t y hc.symm h0, bind_er]
    · rw [ht, h1.1, bind_ok]
      exact h2.2 y u hd.symm hu
theorem Rd.last {α β : Type} {g : ByteArray → Except Nat (α × ByteArray)} {F : α × ByteArray → Except Nat (β × ByteArray)} {c : ByteArray} {v : α} {x : β} (h1 : Rd g c v) (h2 : ∀ s, F (v, s) = .ok (x, s)) : Rd (fun s => g s >>= F) c x := by
  refine ⟨fun X => ?_, fun t u e hu => ?_⟩
  · show (g (c ++ X) >>= F) = _
    rw [h1.1, bind_ok, h2]
  · show (g t >>= F) = _
    rw [h1.2 t u e hu, bind_er]
theorem Rd.none {α : Type} (v : α) : Rd (fun s => .ok (v, s)) ByteArray.empty v := by
  refine ⟨fun X => by rw [ByteArray.empty_append], fun t u e hu => ?_⟩
  have := congrArg ByteArray.size e
  rw [ByteArray.size_append] at this
  have e0 : ByteArray.empty.size = 0 := rfl
  omega
theorem rd_num (lo hi v : Nat) (hv : v < 2 ^ 64) (h1 : lo ≤ v) (h2 : v ≤ hi) : Rd (gN lo hi) (numB v) v := by
  have hb : ∀ j, j ≤ nB v → byteOf (numB v) j = numF v j := fun j hj => byteOf_B (by omega) (numF_lt v j hv)
  refine ⟨fun X => ?_, fun t u e hu => ?_⟩
  · have hs : (numB v ++ X).size = nB v + 1 + X.size := by rw [ByteArray.size_append, numB_size]
    obtain ⟨e1, e2, e3⟩ := num_read (numB v ++ X).size v (byteOf (numB v ++ X)) hv (by omega) fun j hj => by
      rw [byteOf_app, numB_size, if_pos (by omega), hb j hj]
    have hn : numS (numB v ++ X) = 0 := e1
    have hvs : valS (numB v ++ X) = v := e2
    have hr : restN (numB v ++ X) = X := by
      unfold restN
      rw [e3, hs, show nB v + 1 + X.size - 1 - nB v = X.size by omega]
      conv => rhs; rw [← byteOf_eq X]
      refine bytesB_congr fun j hj => ?_
      unfold dropF
      rw [byteOf_app, numB_size, if_neg (by omega), show 1 + nB v + j - (nB v + 1) = j by omega]
    unfold gN
    rw [if_neg (by omega), hvs, if_neg (by omega), hr]
  · have hs := congrArg ByteArray.size e
    rw [ByteArray.size_append, numB_size] at hs
    have hbt : ∀ j, j < t.size → byteOf t j = numF v j := fun j hj => by
      rw [← hb j (by omega), ← e, byteOf_app, if_pos hj]
    have hn : numS t = 4 := by
      unfold numS numE
      by_cases h0 : t.size = 0
      · rw [if_pos h0]
      · have h8 := nB_8 v hv
        have hf0 : byteOf t 0 = nB v := by rw [hbt 0 (by omega)]; unfold numF; rfl
        rw [if_neg h0, hf0, if_neg (by omega), if_pos (by omega)]
    unfold gN
    rw [if_pos (by omega), hn]
theorem rd_plc (p : Nat) : Rd gI (plcB p) (p % PP) := by
  have hb : ∀ j, j < 20 → byteOf (plcB p) j = dig p j := fun j hj => byteOf_B hj (dig_lt p j)
  refine ⟨fun X => ?_, fun t u e hu => ?_⟩
  · have hs : (plcB p ++ X).size = 20 + X.size := by rw [ByteArray.size_append, plcB_size]
    unfold gI
    rw [if_neg (by omega), numOf_PP (p := p) (fun j hj => by rw [byteOf_app, plcB_size, if_pos hj, hb j hj]), hs, Nat.add_sub_cancel_left]
    congr 2
    conv => rhs; rw [← byteOf_eq X]
    refine bytesB_congr fun j hj => ?_
    unfold dropF
    rw [byteOf_app, plcB_size, if_neg (by omega), show 20 + j - 20 = j by omega]
  · have hs := congrArg ByteArray.size e
    rw [ByteArray.size_append, plcB_size] at hs
    unfold gI
    rw [if_pos (by omega)]
/-- A peer's bytes. -/
def prB (q : Nat × Nat) : ByteArray := numB q.1 ++ plcB q.2
theorem rd_peer (q : Nat × Nat) (h : q.1 ≤ 999) (hq : q.2 < PP) : Rd gP (prB q) q := by
  unfold gP prB
  refine Rd.bind (rd_num 0 999 q.1 (by omega) (by omega) h) ?_
  refine Rd.last (rd_plc q.2) fun s => ?_
  rw [Nat.mod_eq_of_lt hq]
/-- Bytes one behind the other. -/
def manyL {α : Type} (enc : α → ByteArray) : List α → ByteArray
  | [] => ByteArray.empty
  | x :: l => enc x ++ manyL enc l
theorem manyL_snoc {α : Type} (enc : α → ByteArray) (x : α) : ∀ l, manyL enc (l ++ [x]) = manyL enc l ++ enc x
  | [] => by show enc x ++ ByteArray.empty = ByteArray.empty ++ enc x; rw [ByteArray.append_empty, ByteArray.empty_append]
  | y :: l => by show enc y ++ manyL enc (l ++ [x]) = enc y ++ manyL enc l ++ enc x; rw [manyL_snoc enc x l, ByteArray.append_assoc]
theorem rd_many {α : Type} {g : ByteArray → Except Nat (α × ByteArray)} {enc : α → ByteArray} : ∀ (n : Nat) (l : List α), l.length = n → (∀ x ∈ l, Rd g (enc x) x) → Rd (gMany g n) (manyL enc l) l
  | 0, l, hl, _ => by
    obtain rfl : l = [] := List.length_eq_zero_iff.1 hl
    exact Rd.none _
  | n + 1, l, hl, h => by
    have hne : l ≠ [] := fun e => by rw [e] at hl; simp at hl
    obtain ⟨k, x, rfl⟩ : ∃ k x, l = k ++ [x] := ⟨l.dropLast, l.getLast hne, (List.dropLast_concat_getLast hne).symm⟩
    rw [manyL_snoc]
    show Rd (fun s => gMany g n s >>= fun z => g z.2 >>= fun y => Except.ok (z.1 ++ [y.1], y.2)) _ _
    refine Rd.bind (rd_many n k (by simpa using hl) fun y hy => h y (List.mem_append_left _ hy)) ?_
    exact Rd.last (F := fun y => Except.ok (k ++ [y.1], y.2)) (h x (by simp)) fun s => rfl
def optB (f : Bool) (c : ByteArray) : ByteArray := if f then c else ByteArray.empty
theorem rd_opN (f : Bool) (lo hi v : Nat) (hv : v < 2 ^ 64) (h : f = true → lo ≤ v ∧ v ≤ hi) (h0 : f = false → v = 0) : Rd (opN f lo hi) (optB f (numB v)) v := by
  cases f with
  | true => exact rd_num lo hi v hv (h rfl).1 (h rfl).2
  | false => rw [h0 rfl]; exact Rd.none 0
theorem rd_opI (f : Bool) (p : Nat) (hp : p < PP) (h0 : f = false → p = 0) : Rd (opI f) (optB f (plcB p)) p := by
  cases f with
  | true => have := rd_plc p; rw [Nat.mod_eq_of_lt hp] at this; exact this
  | false => rw [h0 rfl]; exact Rd.none 0
theorem rd_opM {α : Type} {g : ByteArray → Except Nat (α × ByteArray)} {enc : α → ByteArray} (f : Bool) (most : Nat) (hm : most < 1000) (l : List α) (hl : f = true → l.length ≤ most) (h : ∀ x ∈ l, Rd g (enc x) x) (h0 : f = false → l = []) : Rd (opM g f most) (optB f (numB l.length ++ manyL enc l)) l := by
  cases f with
  | true =>
    have := hl rfl
    exact Rd.bind (F := fun z => gMany g z.1 z.2) (rd_num 0 most l.length (by omega) (by omega) (by omega)) (rd_many l.length l rfl h)
  | false => rw [h0 rfl]; exact Rd.none []
/-- The bytes of a letter. -/
def putA (A : LA) : ByteArray :=
  numB A.kind ++ (prB (A.fa, A.fi) ++ (optB (hasB A.kind 0) (numB A.req) ++ (optB (hasB A.kind 1) (plcB A.id) ++ (optB (hasB A.kind 2) (numB A.av.length ++ manyL numB A.av) ++ (optB (hasB A.kind 3) (numB (if A.done then 1 else 0)) ++
    (optB (hasB A.kind 4) (numB (if A.pa = -1 then 0 else 1)) ++ (optB (decide (A.pa ≠ -1)) (prB (A.pa.toNat, A.pi)) ++ optB (hasB A.kind 5) (numB A.ps.length ++ manyL prB A.ps))))))))
/-- A letter that is right, its places reduced. -/
structure okA (A : LA) : Prop where
  (k1 : 1 ≤ A.kind) (k8 : A.kind ≤ 8) (fa : A.fa ≤ 999) (fi : A.fi < PP) (req : A.req < 2 ^ 64) (id : A.id < PP) (an : A.av.length ≤ 16) (av : ∀ x ∈ A.av, x ≤ 999)
  (pe : (A.pa = -1 ∧ A.pi = 0) ∨ (0 ≤ A.pa ∧ A.pa ≤ 999)) (pi : A.pi < PP) (pn : A.ps.length ≤ 8) (ps : ∀ x ∈ A.ps, x.1 ≤ 999 ∧ x.2 < PP)
  (h0 : hasB A.kind 0 = false → A.req = 0) (h1 : hasB A.kind 1 = false → A.id = 0) (h2 : hasB A.kind 2 = false → A.av = []) (h3 : hasB A.kind 3 = false → A.done = false) (h4 : hasB A.kind 4 = false → A.pa = -1) (h5 : hasB A.kind 5 = false → A.ps = [])
  (hk : A.kind = 2 → A.pa ≠ -1)
/-- What is read ahead of the end. -/
def bodyA (s : ByteArray) : Except Nat (LA × ByteArray) :=
  gN 1 8 s >>= fun z1 => gP z1.2 >>= fun z2 => opN (hasB z1.1 0) 0 18446744073709551615 z2.2 >>= fun z3 => opI (hasB z1.1 1) z3.2 >>= fun z4 => opM (gN 0 999) (hasB z1.1 2) 16 z4.2 >>= fun z5 => opN (hasB z1.1 3) 0 1 z5.2 >>= fun z6 =>
    opN (hasB z1.1 4) (leastB z1.1) 1 z6.2 >>= fun z7 => opP (z7.1 == 1) z7.2 >>= fun z8 => opM gP (hasB z1.1 5) 8 z8.2 >>= fun z9 => .ok (⟨z1.1, z2.1.1, z2.1.2, z3.1, z4.1, z5.1, z6.1 == 1, z8.1.1, z8.1.2, z9.1⟩, z9.2)
theorem getA_body (s : ByteArray) : getA s = bodyA s >>= fun z => if 0 < z.2.size then .error 3 else .ok z.1 := by
  unfold getA bodyA
  simp only [bind_as, bind_ok]
theorem rd_body {A : LA} (h : okA A) : Rd bodyA (putA A) A := by
  have hpp : 0 < PP := Nat.lt_of_le_of_lt (Nat.zero_le _) h.fi
  unfold bodyA putA
  refine Rd.bind (rd_num 1 8 A.kind (by have := h.k8; omega) h.k1 h.k8) ?_
  dsimp only
  refine Rd.bind (rd_peer (A.fa, A.fi) h.fa h.fi) ?_
  dsimp only
  refine Rd.bind (rd_opN (hasB A.kind 0) 0 18446744073709551615 A.req h.req (fun _ => ⟨Nat.zero_le _, by have := h.req; omega⟩) h.h0) ?_
  dsimp only
  refine Rd.bind (rd_opI (hasB A.kind 1) A.id h.id h.h1) ?_
  dsimp only
  refine Rd.bind (rd_opM (hasB A.kind 2) 16 (by omega) A.av (fun _ => h.an) (fun x hx => rd_num 0 999 x (by have := h.av x hx; omega) (Nat.zero_le _) (h.av x hx)) h.h2) ?_
  dsimp only
  refine Rd.bind (rd_opN (hasB A.kind 3) 0 1 (if A.done then 1 else 0) (by split <;> omega) (fun _ => ⟨Nat.zero_le _, by split <;> omega⟩) (fun e => by rw [h.h3 e]; rfl)) ?_
  dsimp only
  have hle : (if A.pa = -1 then 0 else 1) ≤ 1 := by split <;> omega
  refine Rd.bind (rd_opN (hasB A.kind 4) (leastB A.kind) 1 (if A.pa = -1 then 0 else 1) (by omega) (fun _ => ⟨?_, hle⟩) (fun e => by rw [if_pos (h.h4 e)])) ?_
  · unfold leastB
    by_cases hk : A.kind = 2
    · rw [if_pos hk, if_neg (h.hk hk)]; exact Nat.le_refl _
    · rw [if_neg hk]; exact Nat.zero_le _
  dsimp only
  have hy : ((if A.pa = -1 then 0 else 1) == 1) = decide (A.pa ≠ -1) := by
    by_cases e : A.pa = -1
    · rw [if_pos e, decide_eq_false (by simpa using e)]; rfl
    · rw [if_neg e, decide_eq_true e]; rfl
  have hp : Rd (opP ((if A.pa = -1 then 0 else 1) == 1)) (optB (decide (A.pa ≠ -1)) (prB (A.pa.toNat, A.pi))) (A.pa, A.pi) := by
    rw [hy]
    by_cases e : A.pa = -1
    · rw [decide_eq_false (by simpa using e)]
      rcases h.pe with ⟨e1, e2⟩ | ⟨e1, _⟩
      · rw [e1, e2]; exact Rd.none _
      · omega
    · rw [decide_eq_true e]
      rcases h.pe with ⟨e1, _⟩ | ⟨e1, e2⟩
      · exact (e e1).elim
      · have hn : ((A.pa.toNat : Nat) : Int) = A.pa := Int.toNat_of_nonneg e1
        refine Rd.last (F := fun z => Except.ok (((z.1.1 : Int), z.1.2), z.2)) (rd_peer (A.pa.toNat, A.pi) (by show A.pa.toNat ≤ 999; omega) h.pi) fun s => ?_
        show Except.ok ((((A.pa.toNat : Nat) : Int), A.pi), s) = _
        rw [hn]
  refine Rd.bind hp ?_
  dsimp only
  refine Rd.last (rd_opM (hasB A.kind 5) 8 (by omega) A.ps (fun _ => h.pn) (fun x hx => rd_peer x (h.ps x hx).1 (h.ps x hx).2) h.h5) fun s => ?_
  dsimp only
  have hd : ((if A.done = true then 1 else 0) == 1) = A.done := by cases A.done <;> rfl
  rw [hd]
theorem getA_put {A : LA} (h : okA A) : getA (putA A) = .ok A := by
  have e : putA A = putA A ++ ByteArray.empty := ByteArray.append_empty.symm
  rw [getA_body, e, (rd_body h).1, bind_ok]
  rfl
/-! ### What is read are the bytes of what it is -/
end Go.Proofs.Ytijkmbebfodhdaa

/- (LetY) -/
namespace Go.Proofs.Ytijkmbebfodhdaa
open Go.RowKit
set_option linter.unusedSimpArgs false
set_option linter.unusedVariables false
set_option maxHeartbeats 1000000
set_option maxRecDepth 20000
attribute [local irreducible] wpQuiet wpList wpAnyH Calls
/-- Is a letter right? -/
def rightL (l : Let) (r : Rows5) : Bool :=
  isB (kindM l.kind) (bits .andNot .i64 ((upto (six ((l.req : Int) != 0) (!eqId l.id 0) (decide (0 < l.an)) l.done (!samePeer l.pa l.pi (-1) 0) (decide (0 < l.pn))) 6 : Nat) : Int) ((partsM l.kind : Nat) : Int) != 0) (oddM l.fa) (decide (16 < l.an)) (decide (8 < l.pn))
    (samePeer l.pa l.pi (-1) 0) (l.kind == 2) (oddM l.pa) (anyOdd r.av l.an) (anyOdd r.pa l.pn)
theorem lis_c (l : Let) (r : Rows5) (hn : l.an < 2 ^ 62) (hp : l.pn < 2 ^ 62) (w : World) (hl : LetAt w l r) :
    Calls Try.prog 39 #[letV l] w fun e w' => e = .returned (.bool (rightL l r)) ∧ Ext w w' :=
  is_walk l r hn hp _ _ _ _ _ _ _ _ _ _ _ _ (parts_c l.kind) (used_c l _ _ _ _ _ _ rfl rfl rfl rfl rfl rfl) (odd_c _) (odd_c _) rfl rfl (by rw [decide_eq_decide]; omega) rfl (by rw [decide_eq_decide]; omega) rfl rfl rfl rfl w hl
def badB (k : Nat) (b0 b1 b2 b3 b4 b5 : Bool) : Bool := (b0 && !hasB k 0) || ((b1 && !hasB k 1) || ((b2 && !hasB k 2) || ((b3 && !hasB k 3) || ((b4 && !hasB k 4) || (b5 && !hasB k 5)))))
theorem link : ∀ k : Fin 9, ∀ b0 b1 b2 b3 b4 b5 : Bool, (bits .andNot .i64 ((upto (six b0 b1 b2 b3 b4 b5) 6 : Nat) : Int) ((partsM ((k.val : Nat) : Int) : Nat) : Int) != 0) = badB k.val b0 b1 b2 b3 b4 b5 := by decide +kernel
/-- Whether a letter is right, when nothing is seen early. -/
theorem right_late {l : Let} {r : Rows5} {k : Nat} (hk : l.kind = (k : Int)) (k1 : 1 ≤ k) (k8 : k ≤ 8) (hfo : oddM l.fa = false) (ha : decide (16 < l.an) = false) (hq : decide (8 < l.pn) = false)
    (hgood : (samePeer l.pa l.pi (-1) 0 = true ∧ (l.kind == 2) = false) ∨ (samePeer l.pa l.pi (-1) 0 = false ∧ oddM l.pa = false)) :
    rightL l r = (!badB k ((l.req : Int) != 0) (!eqId l.id 0) (decide (0 < l.an)) l.done (!samePeer l.pa l.pi (-1) 0) (decide (0 < l.pn)) && (!anyOdd r.av l.an && !anyOdd r.pa l.pn)) := by
  have hkm : kindM l.kind = true := by unfold kindM; exact decide_eq_true (by omega)
  have hl := link ⟨k, by omega⟩ ((l.req : Int) != 0) (!eqId l.id 0) (decide (0 < l.an)) l.done (!samePeer l.pa l.pi (-1) 0) (decide (0 < l.pn))
  rw [← hk] at hl
  unfold rightL
  rw [hl, hkm, hfo, ha, hq]
  unfold isB
  rcases hgood with ⟨h1, h2⟩ | ⟨h1, h2⟩
  · rw [h1, h2]; simp
  · rw [h1, h2]; simp
theorem eqId_PP (p q : Nat) : eqId p q = true ↔ p % PP = q % PP := by
  rw [eqId_iff]
  refine ⟨fun h => ?_, fun h j hj => ?_⟩
  · rw [← numOf_PP (p := p) (f := dig p) fun _ _ => rfl]
    exact numOf_PP (p := q) fun j hj => h j hj
  · rw [← dig_mod p hj, h, dig_mod q hj]
theorem PP_pos : 0 < PP := by unfold PP; decide +kernel
/-- A letter's parts, its places reduced. -/
def laOf (l : Let) (r : Rows5) : LA := ⟨l.kind.toNat, l.fa.toNat, l.fi % PP, l.req, l.id % PP, (List.range l.an).map fun i => (r.av i).toNat, l.done, l.pa, l.pi % PP, (List.range l.pn).map fun i => ((r.pa i).toNat, r.pp i % PP)⟩
theorem odd_no {a : Int} (h : oddM a = false) : 0 ≤ a ∧ a ≤ 999 := by unfold oddM at h; have := of_decide_eq_false h; omega
theorem any_no {z : Nat → Int} {n i : Nat} (h : anyOdd z n = false) (hi : i < n) : 0 ≤ z i ∧ z i ≤ 999 := by
  refine odd_no ?_
  cases hq : oddM (z i) with
  | false => rfl
  | true => rw [anyOdd_true hi hq] at h; cases h
/-- What holds of a letter that is right. -/
structure Good (l : Let) (r : Rows5) : Prop where
  (k1 : 1 ≤ l.kind) (k8 : l.kind ≤ 8) (fa : 0 ≤ l.fa ∧ l.fa ≤ 999) (an : l.an ≤ 16) (pn : l.pn ≤ 8) (pe : samePeer l.pa l.pi (-1) 0 = true ∨ (samePeer l.pa l.pi (-1) 0 = false ∧ 0 ≤ l.pa ∧ l.pa ≤ 999)) (hk : samePeer l.pa l.pi (-1) 0 = true → (l.kind == 2) = false)
  (av : ∀ i, i < l.an → 0 ≤ r.av i ∧ r.av i ≤ 999) (ps : ∀ i, i < l.pn → 0 ≤ r.pa i ∧ r.pa i ≤ 999)
  (h0 : hasB l.kind.toNat 0 = false → l.req = 0) (h1 : hasB l.kind.toNat 1 = false → l.id % PP = 0) (h2 : hasB l.kind.toNat 2 = false → l.an = 0) (h3 : hasB l.kind.toNat 3 = false → l.done = false) (h4 : hasB l.kind.toNat 4 = false → samePeer l.pa l.pi (-1) 0 = true) (h5 : hasB l.kind.toNat 5 = false → l.pn = 0)
theorem good_of {l : Let} {r : Rows5} (h : rightL l r = true) : Good l r := by
  have h' := h
  unfold rightL isB at h
  simp only [Bool.and_eq_true, Bool.not_eq_true', Bool.and_eq_false_iff] at h
  obtain ⟨a1, a2, a3, a4, a5, a6, a7, a8, a9⟩ := h
  have hk : 1 ≤ l.kind ∧ l.kind ≤ 8 := by unfold kindM at a1; simpa using a1
  obtain ⟨k, hkk⟩ : ∃ k : Nat, l.kind = (k : Int) := ⟨l.kind.toNat, by omega⟩
  have hl := link ⟨k, by omega⟩ ((l.req : Int) != 0) (!eqId l.id 0) (decide (0 < l.an)) l.done (!samePeer l.pa l.pi (-1) 0) (decide (0 < l.pn))
  rw [← hkk, a2] at hl
  have hb : badB k ((l.req : Int) != 0) (!eqId l.id 0) (decide (0 < l.an)) l.done (!samePeer l.pa l.pi (-1) 0) (decide (0 < l.pn)) = false := hl.symm
  unfold badB at hb
  simp only [Bool.or_eq_false_iff, Bool.and_eq_false_iff, Bool.not_eq_false'] at hb
  obtain ⟨c0, c1, c2, c3, c4, c5⟩ := hb
  have hkn : l.kind.toNat = k := by omega
  rw [decide_eq_false_iff_not] at a4 a5
  have fl : ∀ {j : Nat} {b : Bool}, b = false ∨ hasB k j = true → hasB k j = false → b = false := fun h e => h.resolve_right (by rw [e]; decide)
  have hpe : samePeer l.pa l.pi (-1) 0 = true ∨ (samePeer l.pa l.pi (-1) 0 = false ∧ 0 ≤ l.pa ∧ l.pa ≤ 999) := by
    cases hs : samePeer l.pa l.pi (-1) 0 with
    | true => exact .inl rfl
    | false =>
      rw [hs] at a7
      exact .inr ⟨rfl, odd_no (by simpa using a7)⟩
  refine ⟨hk.1, hk.2, odd_no a3, by omega, by omega, hpe, fun hs => ?_, fun i hi => any_no a8 hi, fun i hi => any_no a9 hi, ?_, ?_, ?_, ?_, ?_, ?_⟩
  · rw [hs] at a6
    simpa using a6
  · rw [hkn]; intro e
    have := fl c0 e
    simp at this
    omega
  · rw [hkn]; intro e
    have := c1.resolve_right (by rw [e]; decide)
    rw [eqId_PP] at this
    rw [this, Nat.zero_mod]
  · rw [hkn]; intro e
    have := of_decide_eq_false (fl c2 e)
    omega
  · rw [hkn]; intro e
    exact fl c3 e
  · rw [hkn]; intro e
    exact c4.resolve_right (by rw [e]; decide)
  · rw [hkn]; intro e
    have := of_decide_eq_false (fl c5 e)
    omega
theorem same_none {a : Int} {p : Nat} : samePeer a p (-1) 0 = true ↔ a = -1 ∧ p % PP = 0 := by
  unfold samePeer
  rw [Bool.and_eq_true, beq_iff_eq, eqId_PP, Nat.zero_mod]
theorem good_ok {l : Let} {r : Rows5} (h : Good l r) (hreq : l.req < 2 ^ 64) : okA (laOf l r) := by
  have hmp : ∀ p, p % PP < PP := fun p => Nat.mod_lt _ PP_pos
  have k1 := h.k1
  have k8 := h.k8
  have hfa := h.fa
  refine ⟨by show 1 ≤ l.kind.toNat; omega, by show l.kind.toNat ≤ 8; omega, by show l.fa.toNat ≤ 999; omega, hmp _, hreq, hmp _, by show ((List.range l.an).map _).length ≤ 16; rw [List.length_map, List.length_range]; exact h.an, fun x hx => ?_, ?_, hmp _,
    by show ((List.range l.pn).map _).length ≤ 8; rw [List.length_map, List.length_range]; exact h.pn, fun x hx => ?_, h.h0, h.h1, fun e => ?_, h.h3, fun e => (same_none.1 (h.h4 e)).1, fun e => ?_, fun e => ?_⟩
  · obtain ⟨i, hi, rfl⟩ := List.mem_map.1 hx
    have := h.av i (List.mem_range.1 hi)
    omega
  · rcases h.pe with e | ⟨_, e⟩
    · exact .inl (same_none.1 e)
    · exact .inr e
  · obtain ⟨i, hi, rfl⟩ := List.mem_map.1 hx
    have := h.ps i (List.mem_range.1 hi)
    exact ⟨by show (r.pa i).toNat ≤ 999; omega, hmp _⟩
  · show (List.range l.an).map _ = []
    rw [h.h2 e]; rfl
  · show (List.range l.pn).map _ = []
    rw [h.h5 e]; rfl
  · intro hpa
    have hpa' : l.pa = -1 := hpa
    rcases h.pe with e2 | ⟨_, e2, _⟩
    · have := h.hk e2
      rw [beq_eq_false_iff_ne] at this
      have e' : l.kind.toNat = 2 := e
      omega
    · omega
end Go.Proofs.Ytijkmbebfodhdaa

/- (LetYP) -/
namespace Go.Proofs.Ytijkmbebfodhdaa
open Go.RowKit
set_option linter.unusedSimpArgs false
set_option linter.unusedVariables false
set_option maxHeartbeats 1000000
set_option maxRecDepth 20000
attribute [local irreducible] wpQuiet wpList wpAnyH Calls
theorem numB_le {v : Nat} (hv : v < 2 ^ 64) : (numB v).size ≤ 9 := by have := nB_8 v hv; rw [numB_size]; omega
theorem prB_le {q : Nat × Nat} (hv : q.1 < 2 ^ 64) : (prB q).size ≤ 29 := by unfold prB; rw [ByteArray.size_append, plcB_size]; have := numB_le hv; omega
theorem manyL_le {α : Type} {enc : α → ByteArray} {c : Nat} : ∀ (l : List α), (∀ x ∈ l, (enc x).size ≤ c) → (manyL enc l).size ≤ l.length * c
  | [], _ => by show ByteArray.empty.size ≤ _; exact Nat.zero_le _
  | x :: l, h => by
    show (enc x ++ manyL enc l).size ≤ _
    have h1 := manyL_le l fun y hy => h y (List.mem_cons_of_mem _ hy)
    have h2 := h x (List.mem_cons_self ..)
    rw [ByteArray.size_append, List.length_cons, Nat.add_mul, Nat.one_mul]
    omega
theorem wnum (b : Nat) (s : ByteArray) (v : Nat) (hv : v < 2 ^ 64) (hs : s.size < 2 ^ 60) : TakesW 59 #[.pointer (some ⟨b, 0, none⟩), .int .u64 (v : Int)] b s (.tuple #[]) (s ++ numB v) :=
  wNumber_c b s _ _ (putNumber_c s v hv (by omega))
theorem wpeer (b : Nat) (s : ByteArray) (a : Int) (p : Nat) (ha : 0 ≤ a ∧ a ≤ 999) (hs : s.size < 2 ^ 60) : TakesW 60 #[.pointer (some ⟨b, 0, none⟩), peerV a p] b s (.tuple #[]) (s ++ prB (a.toNat, p % PP)) := by
  have hv : a.toNat < 2 ^ 64 := by omega
  have h9 := numB_le hv
  have e : s ++ prB (a.toNat, p % PP) = (s ++ numB a.toNat) ++ bytesB 20 (dig p) := by
    rw [ByteArray.append_assoc]
    unfold prB
    rw [plcB_mod]
    rfl
  rw [e]
  exact wPeer_c b s _ _ a p (a.toNat : Int) (by rw [Int.toNat_of_nonneg ha.1]; exact wrap_u64 (by omega) (by omega)) (wnum b s _ hv hs) (putPlace_c _ p (by rw [ByteArray.size_append]; omega))
theorem rpeer (a : Int) (p : Nat) (v : Nat) (hv : v < 2 ^ 64) (hw : IntKind.u64.wrap a = (v : Int)) : Says 64 #[peerV a p] (.string (prB (v, p % PP))) := by
  have h9 := numB_le hv
  have e : prB (v, p % PP) = numB v ++ bytesB 20 (dig p) := by
    unfold prB
    rw [plcB_mod]
    rfl
  rw [e]
  exact refPeer_c a p (v : Int) _ _ hw (by rw [bytesB_size]; omega) (refNumber_c v hv) (refPlace_c5 p)
theorem optB_true (c : ByteArray) : optB true c = c := rfl
theorem optB_false (c : ByteArray) : optB false c = ByteArray.empty := rfl
theorem snoc_num (s c : ByteArray) (z : Nat → Int) (i : Nat) : s ++ (c ++ manyL numB ((List.range (i + 1)).map fun i => (z i).toNat)) = s ++ (c ++ manyL numB ((List.range i).map fun i => (z i).toNat)) ++ numB (z i).toNat := by
  rw [List.range_succ, List.map_append, List.map_singleton, manyL_snoc, ByteArray.append_assoc, ByteArray.append_assoc]
theorem snoc_peer (s c : ByteArray) (z : Nat → Int) (p : Nat → Nat) (i : Nat) : s ++ (c ++ manyL prB ((List.range (i + 1)).map fun i => ((z i).toNat, p i % PP))) = s ++ (c ++ manyL prB ((List.range i).map fun i => ((z i).toNat, p i % PP))) ++ prB ((z i).toNat, p i % PP) := by
  rw [List.range_succ, List.map_append, List.map_singleton, manyL_snoc, ByteArray.append_assoc, ByteArray.append_assoc]
theorem nil_num (s c : ByteArray) (z : Nat → Int) : s ++ (c ++ manyL numB ((List.range 0).map fun i => (z i).toNat)) = s ++ c := by
  show s ++ (c ++ ByteArray.empty) = _
  rw [ByteArray.append_empty]
theorem nil_peer (s c : ByteArray) (z : Nat → Int) (p : Nat → Nat) : s ++ (c ++ manyL prB ((List.range 0).map fun i => ((z i).toNat, p i % PP))) = s ++ c := by
  show s ++ (c ++ ByteArray.empty) = _
  rw [ByteArray.append_empty]
theorem optB_le {f : Bool} {c : ByteArray} {n : Nat} (h : c.size ≤ n) : (optB f c).size ≤ n := by
  cases f with
  | true => exact h
  | false => exact Nat.zero_le _
theorem app_le {a b : ByteArray} {n m : Nat} (ha : a.size ≤ n) (hb : b.size ≤ m) : (a ++ b).size ≤ n + m := by rw [ByteArray.size_append]; omega
/-- The beginnings of a letter's bytes. -/
structure Seg (l : Let) (r : Rows5) (s1 s2 s3 s4 s5 s6 s7 s8 : ByteArray) (nn : Bool) : Prop where
  (e1 : s1 = numB l.kind.toNat) (e2 : s2 = s1 ++ prB (l.fa.toNat, l.fi % PP)) (e3 : s3 = s2 ++ optB (hasB l.kind.toNat 0) (numB l.req)) (e4 : s4 = s3 ++ optB (hasB l.kind.toNat 1) (plcB (l.id % PP)))
  (e5 : s5 = s4 ++ optB (hasB l.kind.toNat 2) (numB l.an ++ manyL numB ((List.range l.an).map fun i => (r.av i).toNat))) (e6 : s6 = s5 ++ optB (hasB l.kind.toNat 3) (numB (if l.done then 1 else 0)))
  (e7 : s7 = s6 ++ optB (hasB l.kind.toNat 4) (numB (if nn then 0 else 1)) ++ optB (!nn) (prB (l.pa.toNat, l.pi % PP))) (e8 : s8 = s7 ++ optB (hasB l.kind.toNat 5) (numB l.pn ++ manyL prB ((List.range l.pn).map fun i => ((r.pa i).toNat, r.pp i % PP))))
  (z1 : s1.size ≤ 9) (z2 : s2.size ≤ 38) (z3 : s3.size ≤ 47) (z4 : s4.size ≤ 67) (z5 : s5.size ≤ 300) (z6 : s6.size ≤ 309) (z7 : s7.size ≤ 400) (z8 : s8.size ≤ 800) (hn : nn = decide (l.pa = -1)) (ha : nn = false → 0 ≤ l.pa ∧ l.pa ≤ 999) (hnn : samePeer l.pa l.pi (-1) 0 = nn)
  (h4 : hasB l.kind.toNat 4 = false → nn = true) (hs : s8 = putA (laOf l r))
theorem seg_of {l : Let} {r : Rows5} (h : Good l r) (hreq : l.req < 2 ^ 64) : ∃ s1 s2 s3 s4 s5 s6 s7 s8 nn, Seg l r s1 s2 s3 s4 s5 s6 s7 s8 nn := by
  have k8 := h.k8
  have hfa := h.fa
  have han := h.an
  have hpn := h.pn
  have hnn : samePeer l.pa l.pi (-1) 0 = decide (l.pa = -1) := by
    rcases h.pe with e | ⟨e, e1, _⟩
    · rw [e, (same_none.1 e).1]; rfl
    · rw [e, decide_eq_false (by omega)]
  have y1 : (numB l.kind.toNat).size ≤ 9 := numB_le (by omega)
  have y2 : (prB (l.fa.toNat, l.fi % PP)).size ≤ 29 := prB_le (by show l.fa.toNat < _; omega)
  have y3 : (optB (hasB l.kind.toNat 0) (numB l.req)).size ≤ 9 := optB_le (numB_le hreq)
  have y4 : (optB (hasB l.kind.toNat 1) (plcB (l.id % PP))).size ≤ 20 := optB_le (by rw [plcB_size]; omega)
  have y5 : (optB (hasB l.kind.toNat 2) (numB l.an ++ manyL numB ((List.range l.an).map fun i => (r.av i).toNat))).size ≤ 153 := by
    refine optB_le ?_
    rw [ByteArray.size_append]
    have a1 : (numB l.an).size ≤ 9 := numB_le (by omega)
    have a2 := manyL_le (enc := numB) (c := 9) ((List.range l.an).map fun i => (r.av i).toNat) fun x hx => by
      obtain ⟨i, hi, rfl⟩ := List.mem_map.1 hx
      have := h.av i (List.mem_range.1 hi)
      exact numB_le (by omega)
    rw [List.length_map, List.length_range] at a2
    omega
  have y6 : (optB (hasB l.kind.toNat 3) (numB (if l.done then 1 else 0))).size ≤ 9 := optB_le (numB_le (by split <;> omega))
  have y7 : (optB (hasB l.kind.toNat 4) (numB (if decide (l.pa = -1) then 0 else 1))).size ≤ 9 := optB_le (numB_le (by split <;> omega))
  have y8 : (optB (!decide (l.pa = -1)) (prB (l.pa.toNat, l.pi % PP))).size ≤ 29 := by
    rcases h.pe with e | ⟨e, e1, e2⟩
    · rw [decide_eq_true (same_none.1 e).1]; exact Nat.zero_le _
    · exact optB_le (prB_le (by show l.pa.toNat < _; omega))
  have y9 : (optB (hasB l.kind.toNat 5) (numB l.pn ++ manyL prB ((List.range l.pn).map fun i => ((r.pa i).toNat, r.pp i % PP)))).size ≤ 241 := by
    refine optB_le ?_
    rw [ByteArray.size_append]
    have a1 : (numB l.pn).size ≤ 9 := numB_le (by omega)
    have a2 := manyL_le (enc := prB) (c := 29) ((List.range l.pn).map fun i => ((r.pa i).toNat, r.pp i % PP)) fun x hx => by
      obtain ⟨i, hi, rfl⟩ := List.mem_map.1 hx
      have := h.ps i (List.mem_range.1 hi)
      exact prB_le (by show (r.pa i).toNat < _; omega)
    rw [List.length_map, List.length_range] at a2
    omega
  have z2 := app_le y1 y2
  have z3 := app_le z2 y3
  have z4 := app_le z3 y4
  have z5 := app_le z4 y5
  have z6 := app_le z5 y6
  have z7 := app_le (app_le z6 y7) y8
  have z8 := app_le z7 y9
  refine ⟨_, _, _, _, _, _, _, _, decide (l.pa = -1), rfl, rfl, rfl, rfl, rfl, rfl, rfl, rfl, y1, z2, Nat.le_trans z3 (by omega), Nat.le_trans z4 (by omega), Nat.le_trans z5 (by omega), Nat.le_trans z6 (by omega), Nat.le_trans z7 (by omega), Nat.le_trans z8 (by omega), rfl, fun e => ?_, hnn, fun e => ?_, ?_⟩
  · rcases h.pe with e' | ⟨_, e1⟩
    · rw [decide_eq_true (same_none.1 e').1] at e; cases e
    · exact e1
  · rw [← hnn]; exact h.h4 e
  · unfold putA laOf
    dsimp only
    have hd : decide (l.pa ≠ -1) = !decide (l.pa = -1) := by by_cases e : l.pa = -1 <;> simp [e]
    have hi : (if l.pa = -1 then 0 else 1) = (if decide (l.pa = -1) = true then 0 else 1) := by by_cases e : l.pa = -1 <;> simp [e]
    rw [hd, hi, List.length_map, List.length_range, List.length_map, List.length_range]
    simp only [ByteArray.append_assoc]
theorem hasB_at {l : Let} (h1 : 0 ≤ l.kind) (j : Nat) (x : Int) (hx : ((2 ^ j : Nat) : Int) = x) : (bits .and .i64 ((partsM l.kind : Nat) : Int) x != 0) = hasB l.kind.toNat j := by
  unfold hasB
  rw [Int.toNat_of_nonneg h1, hx]
theorem lput_yes {l : Let} {r : Rows5} (hreq : l.req < 2 ^ 64) (h : rightL l r = true) (w : World) (hl : LetAt w l r) :
    Calls Try.prog 36 #[letV l] w fun e w' => e = .returned (.tuple #[.string (putA (laOf l r)), .int .i64 0]) ∧ Ext w w' := by
  have g := good_of h
  have k1 := g.k1
  have k8 := g.k8
  have han := g.an
  have hpn := g.pn
  obtain ⟨s1, s2, s3, s4, s5, s6, s7, s8, nn, S⟩ := seg_of g hreq
  rw [← S.hs]
  have hpt := parts_c l.kind
  rw [show kindM l.kind = true by unfold kindM; exact decide_eq_true ⟨k1, k8⟩] at hpt
  have hat := fun j x hx => hasB_at (l := l) (by omega) j x hx
  have z1 := S.z1
  have z2 := S.z2
  have z3 := S.z3
  have z4 := S.z4
  have z5 := S.z5
  have z6 := S.z6
  have z7 := S.z7
  have z8 := S.z8
  have tf : ∀ {b : Bool}, b = true → b = false → False := fun h1 h2 => by rw [h1] at h2; cases h2
  refine put_walk l r ((partsM l.kind : Nat) : Int) (hasB l.kind.toNat 0) (hasB l.kind.toNat 1) (hasB l.kind.toNat 2) (hasB l.kind.toNat 3) (hasB l.kind.toNat 4) (hasB l.kind.toNat 5) nn (l.kind.toNat : Int) s1 s2 s3 s4 s5 s6 s7 s8 (s6 ++ numB (if nn then 0 else 1))
    (fun i => s4 ++ (numB l.an ++ manyL numB ((List.range i).map fun i => (r.av i).toNat))) (fun i => s7 ++ (numB l.pn ++ manyL prB ((List.range i).map fun i => ((r.pa i).toNat, r.pp i % PP)))) (fun i => (((r.av i).toNat : Nat) : Int)) (by omega) (by omega)
    (fun w hl => by rw [← h]; exact lis_c l r (by omega) (by omega) w hl) hpt (hat 0 1 rfl) (hat 1 2 rfl) (hat 2 4 rfl) (hat 3 8 rfl) (hat 4 16 rfl) (hat 5 32 rfl)
    (by rw [Int.toNat_of_nonneg (by omega)]; exact wrap_u64 (by omega) (by omega)) ?_ ?_ ?_ ?_ ?_ ?_ ?_ ?_ ?_ ?_ ?_ ?_ S.hnn ?_ ?_ ?_ ?_ ?_ ?_ ?_ ?_ w hl
  · intro b
    have := wnum b { data := #[] } l.kind.toNat (by omega) (by decide)
    rw [show ({ data := #[] } : ByteArray) ++ numB l.kind.toNat = s1 from by rw [S.e1]; exact ByteArray.empty_append] at this
    exact this
  · intro b
    rw [S.e2]
    exact wpeer b s1 l.fa l.fi g.fa (by omega)
  · intro e b
    rw [S.e3, e, optB_true]
    exact wnum b s2 l.req hreq (by omega)
  · intro e
    rw [S.e3, e, optB_false, ByteArray.append_empty]
  · intro e
    rw [S.e4, e, optB_true, plcB_mod]
    exact putPlace_c s3 l.id (by omega)
  · intro e
    rw [S.e4, e, optB_false, ByteArray.append_empty]
  · intro e b
    show TakesW _ _ b s4 _ (s4 ++ (numB l.an ++ manyL numB ((List.range 0).map fun i => (r.av i).toNat)))
    rw [nil_num]
    exact wnum b s4 l.an (by omega) (by omega)
  · intro e b i hi
    have hv := g.av i hi
    refine ⟨by rw [Int.toNat_of_nonneg hv.1]; exact wrap_u64 (by omega) (by omega), ?_⟩
    show TakesW _ _ b (s4 ++ (numB l.an ++ manyL numB ((List.range i).map fun i => (r.av i).toNat))) _ (s4 ++ (numB l.an ++ manyL numB ((List.range (i + 1)).map fun i => (r.av i).toNat)))
    rw [snoc_num]
    refine wnum b _ _ (by omega) ?_
    have a1 : (numB l.an).size ≤ 9 := numB_le (by omega)
    have a2 := manyL_le (enc := numB) (c := 9) ((List.range i).map fun i => (r.av i).toNat) fun x hx => by
      obtain ⟨j, hj, rfl⟩ := List.mem_map.1 hx
      have := g.av j (by have := List.mem_range.1 hj; omega)
      exact numB_le (by omega)
    rw [List.length_map, List.length_range] at a2
    rw [ByteArray.size_append, ByteArray.size_append]
    omega
  · intro e
    show s4 ++ _ = s5
    rw [S.e5, e, optB_true]
  · intro e
    rw [S.e5, e, optB_false, ByteArray.append_empty]
  · intro e b
    refine wFlag_c b s5 s6 l.done ?_
    rw [S.e6, e, optB_true]
    cases l.done with
    | true => exact wnum b s5 1 (by omega) (by omega)
    | false => exact wnum b s5 0 (by omega) (by omega)
  · intro e
    rw [S.e6, e, optB_false, ByteArray.append_empty]
  · intro e b
    refine wFlag_c b s6 _ (!nn) ?_
    cases nn with
    | true => exact wnum b s6 0 (by omega) (by omega)
    | false => exact wnum b s6 1 (by omega) (by omega)
  · intro e en b
    have hp := S.ha en
    rw [S.e7, e, en, optB_true, Bool.not_false, optB_true]
    refine wpeer b _ l.pa l.pi hp ?_
    have a1 : (numB (if false = true then 0 else 1)).size ≤ 9 := numB_le (by decide)
    rw [ByteArray.size_append]
    omega
  · intro e en
    rw [S.e7, e, en, optB_true, Bool.not_true, optB_false, ByteArray.append_empty]
  · intro e
    rw [S.e7, e, S.h4 e, optB_false, Bool.not_true, optB_false, ByteArray.append_empty, ByteArray.append_empty]
  · intro e b
    show TakesW _ _ b s7 _ (s7 ++ (numB l.pn ++ manyL prB ((List.range 0).map fun i => ((r.pa i).toNat, r.pp i % PP))))
    rw [nil_peer]
    exact wnum b s7 l.pn (by omega) (by omega)
  · intro e b i hi
    have hv := g.ps i hi
    show TakesW _ _ b (s7 ++ (numB l.pn ++ manyL prB ((List.range i).map fun i => ((r.pa i).toNat, r.pp i % PP)))) _ (s7 ++ (numB l.pn ++ manyL prB ((List.range (i + 1)).map fun i => ((r.pa i).toNat, r.pp i % PP))))
    rw [snoc_peer]
    refine wpeer b _ _ _ hv ?_
    have a1 : (numB l.pn).size ≤ 9 := numB_le (by omega)
    have a2 := manyL_le (enc := prB) (c := 29) ((List.range i).map fun i => ((r.pa i).toNat, r.pp i % PP)) fun x hx => by
      obtain ⟨j, hj, rfl⟩ := List.mem_map.1 hx
      have := g.ps j (by have := List.mem_range.1 hj; omega)
      exact prB_le (by show (r.pa j).toNat < _; omega)
    rw [List.length_map, List.length_range] at a2
    rw [ByteArray.size_append, ByteArray.size_append]
    omega
  · intro e
    show s7 ++ _ = s8
    rw [S.e8, e, optB_true]
  · intro e
    rw [S.e8, e, optB_false, ByteArray.append_empty]
theorem lput_no {l : Let} {r : Rows5} (hn : l.an < 2 ^ 62) (hp : l.pn < 2 ^ 62) (h : rightL l r = false) (w : World) (hl : LetAt w l r) :
    Calls Try.prog 36 #[letV l] w fun e w' => e = .returned (.tuple #[.string { data := #[] }, .int .i64 1]) ∧ Ext w w' :=
  put_no l r (fun w hl => by rw [← h]; exact lis_c l r hn hp w hl) w hl
end Go.Proofs.Ytijkmbebfodhdaa

/- (LetZ) -/
namespace Go.Proofs.Ytijkmbebfodhdaa
open Go.RowKit
set_option linter.unusedSimpArgs false
set_option linter.unusedVariables false
set_option maxHeartbeats 1000000
set_option maxRecDepth 20000
attribute [local irreducible] wpQuiet wpList wpAnyH Calls
theorem map_getD {α β : Type} (f : α → β) (d : α) (l : List α) : (List.range l.length).map (fun i => f (l.getD i d)) = l.map f := by
  apply List.ext_getElem?
  intro i
  rw [List.getElem?_map, List.getElem?_map]
  by_cases h : i < l.length
  · have e : l.getD i d = l[i] := by rw [List.getD_eq_getElem?_getD, List.getElem?_eq_getElem h]; rfl
    rw [List.getElem?_range h, List.getElem?_eq_getElem h, Option.map_some, e, Option.map_some]
  · rw [List.getElem?_eq_none (by simp; omega), List.getElem?_eq_none (by omega)]; rfl
theorem laOf_got {S : List (Nat × Obj)} {m : Let} {A : LA} (h : IsL S m A) (ok : okA A) : laOf m (rowsA A) = A := by
  have e1 : (List.range m.an).map (fun i => (((A.av.getD i 0 : Nat) : Int)).toNat) = A.av := by
    rw [h.an]
    have := map_getD (fun x : Nat => x) 0 A.av
    simpa using this
  have e2 : (List.range m.pn).map (fun i => ((((A.ps.getD i (0, 0)).1 : Nat) : Int).toNat, (A.ps.getD i (0, 0)).2 % PP)) = A.ps := by
    rw [h.pn]
    have := map_getD (fun x : Nat × Nat => (((x.1 : Nat) : Int).toNat, x.2 % PP)) (0, 0) A.ps
    rw [this]
    conv => rhs; rw [← List.map_id A.ps]
    refine List.map_congr_left fun x hx => ?_
    rw [Nat.mod_eq_of_lt (ok.ps x hx).2, Int.toNat_natCast]
    rfl
  unfold laOf rowsA
  dsimp only
  rw [e1, e2, h.kind, h.fa, h.fi, h.req, h.id, h.done, h.pa, h.pi, Nat.mod_eq_of_lt ok.fi, Nat.mod_eq_of_lt ok.id, Nat.mod_eq_of_lt ok.pi, Int.toNat_natCast, Int.toNat_natCast]
theorem odd_false {a : Int} (h : 0 ≤ a ∧ a ≤ 999) : oddM a = false := by unfold oddM; exact decide_eq_false (by omega)
theorem right_got {S : List (Nat × Obj)} {m : Let} {A : LA} (h : IsL S m A) (ok : okA A) : rightL m (rowsA A) = true := by
  have hav : anyOdd (rowsA A).av m.an = false := anyOdd_false fun i hi => by
    have hi' : i < A.av.length := by rw [← h.an]; exact hi
    refine odd_false ?_
    have e : A.av.getD i 0 = A.av[i] := by rw [List.getD_eq_getElem?_getD, List.getElem?_eq_getElem hi']; rfl
    have := ok.av _ (List.getElem_mem hi')
    show 0 ≤ ((A.av.getD i 0 : Nat) : Int) ∧ ((A.av.getD i 0 : Nat) : Int) ≤ 999
    rw [e]
    omega
  have hps : anyOdd (rowsA A).pa m.pn = false := anyOdd_false fun i hi => by
    have hi' : i < A.ps.length := by rw [← h.pn]; exact hi
    refine odd_false ?_
    have e : A.ps.getD i (0, 0) = A.ps[i] := by rw [List.getD_eq_getElem?_getD, List.getElem?_eq_getElem hi']; rfl
    have := (ok.ps _ (List.getElem_mem hi')).1
    show 0 ≤ (((A.ps.getD i (0, 0)).1 : Nat) : Int) ∧ (((A.ps.getD i (0, 0)).1 : Nat) : Int) ≤ 999
    rw [e]
    omega
  have k1 := ok.k1
  have k8 := ok.k8
  have hfa : oddM m.fa = false := odd_false (by rw [h.fa]; have := ok.fa; omega)
  have hsp : samePeer m.pa m.pi (-1) 0 = decide (A.pa = -1) := by
    rw [h.pa, h.pi]
    by_cases e : A.pa = -1
    · rw [decide_eq_true e]
      rcases ok.pe with ⟨_, e2⟩ | ⟨e1, _⟩
      · exact same_none.2 ⟨e, by rw [e2, Nat.zero_mod]⟩
      · omega
    · rw [decide_eq_false e]
      cases hq : samePeer A.pa A.pi (-1) 0 with
      | false => rfl
      | true => exact (e (same_none.1 hq).1).elim
  have hgood : (samePeer m.pa m.pi (-1) 0 = true ∧ (m.kind == 2) = false) ∨ (samePeer m.pa m.pi (-1) 0 = false ∧ oddM m.pa = false) := by
    rw [hsp]
    by_cases e : A.pa = -1
    · refine .inl ⟨decide_eq_true e, ?_⟩
      rw [h.kind, beq_eq_false_iff_ne]
      intro e2
      exact ok.hk (by omega) e
    · refine .inr ⟨decide_eq_false e, odd_false ?_⟩
      rw [h.pa]
      rcases ok.pe with ⟨e1, _⟩ | e1
      · exact (e e1).elim
      · exact e1
  rw [right_late h.kind k1 k8 hfa (decide_eq_false (by have := ok.an; rw [h.an]; omega)) (decide_eq_false (by have := ok.pn; rw [h.pn]; omega)) hgood, hav, hps]
  have fl : ∀ {b : Bool} {j : Nat}, (hasB A.kind j = false → b = false) → (b && !hasB A.kind j) = false := fun {b j} hb => by
    cases hj : hasB A.kind j with
    | true => simp
    | false => rw [hb hj]; rfl
  have hb : badB A.kind ((m.req : Int) != 0) (!eqId m.id 0) (decide (0 < m.an)) m.done (!samePeer m.pa m.pi (-1) 0) (decide (0 < m.pn)) = false := by
    unfold badB
    rw [fl fun e => ?_, fl fun e => ?_, fl fun e => ?_, fl fun e => ?_, fl fun e => ?_, fl fun e => ?_]
    · rfl
    · rw [h.pn, ok.h5 e]; rfl
    · rw [hsp, ok.h4 e]; rfl
    · rw [h.done, ok.h3 e]
    · rw [h.an, ok.h2 e]; rfl
    · rw [h.id, ok.h1 e, eqId_refl]; rfl
    · rw [h.req, ok.h0 e]; rfl
  rw [hb]
  rfl
/-- Two letters are the same just if their parts are. -/
theorem same_iff {l m : Let} {r s : Rows5} (hl : Good l r) (hm : Good m s) : sameLet l r m s = true ↔ laOf l r = laOf m s := by
  have k1 := hl.k1
  have k2 := hm.k1
  have f1 := hl.fa
  have f2 := hm.fa
  unfold sameLet laOf samePeer sameInts samePeers samePeer
  simp only [Bool.and_eq_true, beq_iff_eq, eqId_PP, List.all_eq_true, List.mem_range, LA.mk.injEq]
  refine ⟨?_, ?_⟩
  · rintro ⟨h1, ⟨h2, h3⟩, h4, h5, ⟨h6, h7⟩, h8, ⟨h9, h10⟩, h11, h12⟩
    refine ⟨by rw [h1], by rw [h2], h3, by omega, h5, ?_, h8, h9, h10, ?_⟩
    · rw [h6]
      refine List.map_congr_left fun i hi => ?_
      rw [h7 i (by rw [h6]; exact List.mem_range.1 hi)]
    · rw [h11]
      refine List.map_congr_left fun i hi => ?_
      obtain ⟨a, b⟩ := h12 i (by rw [h11]; exact List.mem_range.1 hi)
      rw [a, b]
  · rintro ⟨h1, h2, h3, h4, h5, h6, h7, h8, h9, h10⟩
    have l6 : l.an = m.an := by have := congrArg List.length h6; simpa using this
    have l10 : l.pn = m.pn := by have := congrArg List.length h10; simpa using this
    refine ⟨by omega, ⟨by omega, h3⟩, by omega, h5, ⟨l6, fun i hi => ?_⟩, h7, ⟨h8, h9⟩, l10, fun i hi => ?_⟩
    · have a1 := hl.av i hi
      have a2 := hm.av i (by omega)
      have := congrArg (fun x => x[i]?) h6
      simp only [List.getElem?_map, List.getElem?_range hi, List.getElem?_range (show i < m.an by omega), Option.map_some, Option.some.injEq] at this
      omega
    · have a1 := hl.ps i hi
      have a2 := hm.ps i (by omega)
      have := congrArg (fun x => x[i]?) h10
      simp only [List.getElem?_map, List.getElem?_range hi, List.getElem?_range (show i < m.pn by omega), Option.map_some, Option.some.injEq, Prod.mk.injEq] at this
      exact ⟨by omega, this.2⟩
end Go.Proofs.Ytijkmbebfodhdaa

/- (LetD) -/
namespace Go.Proofs.Ytijkmbebfodhdaa
open Go.RowKit
set_option linter.unusedSimpArgs false
set_option linter.unusedVariables false
set_option maxHeartbeats 2000000
set_option maxRecDepth 20000
attribute [local irreducible] wpQuiet wpList wpAnyH Calls
def let1L : Let := ⟨6, 5, 0, 7, 0, none, 0, 0, false, -1, 0, none, 0, 0⟩
def rows0 : Rows5 := ⟨fun _ => 0, fun _ => 0, fun _ => 0⟩
def LA1 : LA := ⟨6, 5, 0, 7, 0, [], false, -1, 0, []⟩
/-- The row's bytes. -/
def bytes1 : ByteArray := { data := #[1, 6, 1, 5, 0, 0, 0, 0, 0, 0, 0, 0, 0, 0, 0, 0, 0, 0, 0, 0, 0, 0, 0, 0, 1, 7] }
theorem built_p5 : Try.prog.built 60 [(0, .int .i64 5)] = some (peerC 5 0) := by
  rw [peerC_eq]
  unfold rowOf
  kernel_rfl
theorem built_l1 : Try.prog.built 63 [(0, .int .i64 6), (1, peerV 5 0), (2, .int .u64 7), (6, peerV (-1) 0)] = some (letC let1L) := by
  rw [peerV_eq, peerV_eq, peerC_eq, peerC_eq, letC_eq]
  unfold rowOf
  kernel_rfl
theorem pb5 {a : Act} {w : World} {dst : Option Tmp} {ty : TypeId} {pos : String} {aft : Array Edge} {gd : Option (Nat × Bool)} {parts : Array (Nat × Operand)} (hp : (parts.map fun (i, x) => (i, a.eval x)).toList = [(0, .int .i64 5)]) : (execOp a.eval ⟨dst, .build 60 parts, ty, pos, aft, gd⟩).run Try.prog w = .ok (.value (peerV 5 0)) w := by
  rw [peerV_eq]; exact ld_build built_p5 hp
theorem lb1 {a : Act} {w : World} {dst : Option Tmp} {ty : TypeId} {pos : String} {aft : Array Edge} {gd : Option (Nat × Bool)} {parts : Array (Nat × Operand)} (hp : (parts.map fun (i, x) => (i, a.eval x)).toList = [(0, .int .i64 6), (1, peerV 5 0), (2, .int .u64 7), (6, peerV (-1) 0)]) : (execOp a.eval ⟨dst, .build 63 parts, ty, pos, aft, gd⟩).run Try.prog w = .ok (.value (letV let1L)) w := by
  rw [letV_eq]; exact ld_build built_l1 hp
theorem lbZ {a : Act} {w : World} {dst : Option Tmp} {ty : TypeId} {pos : String} {aft : Array Edge} {gd : Option (Nat × Bool)} {parts : Array (Nat × Operand)} (hp : (parts.map fun (i, x) => (i, a.eval x)).toList = []) : (execOp a.eval ⟨dst, .build 63 parts, ty, pos, aft, gd⟩).run Try.prog w = .ok (.value (letV letZ)) w := by
  rw [letV_eq]; exact ld_build built_letZ hp
theorem right1 : rightL let1L rows0 = true := by decide +kernel
theorem atL1 (w : World) : LetAt w let1L rows0 := ⟨fun i hi => absurd hi (Nat.not_lt_zero i), fun i hi => absurd hi (Nat.not_lt_zero i)⟩
theorem rightZ : rightL letZ rows0 = false := by decide +kernel
theorem atZ (w : World) : LetAt w letZ rows0 := ⟨fun i hi => absurd hi (Nat.not_lt_zero i), fun i hi => absurd hi (Nat.not_lt_zero i)⟩
theorem la1 : laOf let1L rows0 = LA1 := by
  unfold laOf let1L LA1
  simp [Nat.zero_mod]
theorem ok1 : okA LA1 := by
  have := good_ok (good_of right1) (by decide)
  rw [la1] at this
  exact this
theorem put1 : putA LA1 = bytes1 := by
  apply ByteArray.ext
  apply Array.toList_inj.1
  decide +kernel
theorem put1_c : Says 36 #[letV let1L] (.tuple #[.string bytes1, .int .i64 0]) := fun w => by
  have := lput_yes (by decide) right1 w (atL1 w)
  rw [la1, put1] at this
  exact this
theorem putZ_c : Says 36 #[letV letZ] (.tuple #[.string { data := #[] }, .int .i64 1]) := fun w => lput_no (by decide) (by decide) rightZ w (atZ w)
theorem is1_c : Says 39 #[letV let1L] (.bool true) := fun w => by
  have := lis_c let1L rows0 (by decide) (by decide) w (atL1 w)
  rw [right1] at this
  exact this
theorem get1_c (w : World) : Calls Try.prog 41 #[.string bytes1] w fun e w' => ∃ m, e = .returned (.tuple #[letV m, .int .i64 0]) ∧ Ext w w' ∧ Says 43 #[letV let1L, letV m] (.bool true) := by
  refine (get_c bytes1 w).mono ?_
  rintro e w' ⟨m, x, S, rfl, hm, h⟩
  have hg : getA bytes1 = .ok LA1 := by rw [← put1]; exact getA_put ok1
  rcases h with ⟨A, hA, rfl, hl⟩ | ⟨hA, _⟩
  · rw [hg] at hA
    obtain rfl : LA1 = A := by simpa using hA
    refine ⟨m, rfl, hm.ext, fun w2 => ?_⟩
    have hs : sameLet let1L rows0 m (rowsA LA1) = true := (same_iff (good_of right1) (good_of (right_got hl ok1))).2 (by rw [la1, laOf_got hl ok1])
    have han : m.an = 0 := hl.an
    have hpn : m.pn = 0 := hl.pn
    have := same_c let1L m rows0 (rowsA LA1) (by decide) (by decide) w2 (atL1 w2) ⟨fun i hi => by omega, fun i hi => by omega⟩
    rw [hs] at this
    exact this
  · rw [hg] at hA; cases hA
theorem lettered_c : Says 38 #[] (.bool true) := by
  intro w
  have c1 : ({ data := #[1, 6, 1, 5] } : ByteArray) ++ { data := #[0, 0, 0, 0, 0, 0, 0, 0, 0, 0, 0, 0, 0, 0, 0, 0, 0, 0, 0, 0] } ++ { data := #[1, 7] } = bytes1 := by decide +kernel
  obtain ⟨b1, hb1⟩ : ∃ b, bytes1 = b := ⟨_, rfl⟩
  have p1 := put1_c
  have q1 := get1_c
  rw [hb1] at p1 q1 c1
  clear hb1
  go_enter Try.func38, Try.ntmps38
  have hm := Mem.refl w []
  go_wp2_with ((first | refine wpList_skip (by rfl) ?_ | (refine wlL (hm := hm) (hu := by first | exact undPeer | exact undID | exact undLetter) (hi := by (try simp only [rowOf_size, idC_size, peerC_size, letC_size]); first | exact sizePeer | exact sizeID | exact sizeLetter) (h := ?_); (try simp only [Act.put, k1, k2, k3]); (try simp only [← peerV_eq, ← idV_eq, ← letV_eq])) | refine wlLC (hm := hm) (hv := by first | exact let0 _ | exact let1 _ | exact let22 _ | exact let43 _ | exact let44 _ | exact let45 _ | exact let66 _ | rfl) (hu := by first | exact undInt | exact undU64 | exact undBool | exact undIntS | exact undPeerS | exact undStr) (h := ?_) | (refine yS (hm := hm) (hi := by (try simp only [rowOf_size, idC_size, peerC_size, letC_size]); first | exact sizePeer | exact sizeID | exact sizeLetter) (h := ?_); clear hm; intro w1 hm; (try simp only [rowOf_set, k1, k2, k3, Value.cells, Act.eval, k7, k8, k9, kA, Option.getD_some] at hm)) | (refine wlSC (hm := hm) (hi := by first | exact sizeInt | exact sizeU64 | exact sizeBool | exact sizeIntS | exact sizePeerS | exact sizeStr) (ho := by first | decide | (simp only [rowOf_size, idC_size, peerC_size, letC_size]; omega) | (simp; done)) (h := ?_); clear hm; intro w1 hm; (try simp only [rowOf_set, k1, k2, k3, Value.cells, Act.eval, k7, k8, k9, kA, Option.getD_some] at hm)) | (refine wlA (hz := by first | exact zeroPeer | exact zeroID | exact zeroLetter) (hm := hm) (h := ?_); clear hm; intro b1 w1 hm; (try simp only [rowOf_set, k1, k2, k3, Value.cells, Act.eval, k7, k8, k9, kA, Option.getD_some] at hm)) | (refine wl_box (by rfl) rfl (by first | exact peerV_cells _ _ | exact letV_cells _ | exact idV_cells _ | rfl) hm ?_; clear hm; intro b1 w1 hm) | ((with_reducible show wpList _ _ _ (⟨_, .build 60 _, _, _, _, _⟩ :: _) _ _); refine wl_op (by rfl) fun K hK => ?_; refine ow_value (pb5 (by first | rfl | simp [Act.eval])) (hK _ _ ?_); clear hK K) | ((with_reducible show wpList _ _ _ (⟨_, .build 63 #[], _, _, _, _⟩ :: _) _ _); refine wl_op (by rfl) fun K hK => ?_; refine ow_value (lbZ (by first | rfl | simp)) (hK _ _ ?_); clear hK K) | ((with_reducible show wpList _ _ _ (⟨_, .build 63 #[_, _, _, _], _, _, _, _⟩ :: _) _ _); refine wl_op (by rfl) fun K hK => ?_; refine ow_value (lb1 (by first | rfl | simp [Act.eval])) (hK _ _ ?_); clear hK K) | (go_at_call 65; refine (refNone_c _).mono ?_; rintro e w1 ⟨rfl, hx⟩; replace hm := hm.call hx; clear hx) | (go_at_call 36; refine (p1 _).mono ?_; rintro e w1 ⟨rfl, hx⟩; replace hm := hm.call hx; clear hx) | (with_reducible first | refine stBs ?_ | refine stMs ?_ | refine stAp ?_ | refine stCo ?_)); (try simp only [k4, k5, k6, Act.put, k1, k2, k3]))
  refine (q1 _).mono ?_
  rintro e w4 ⟨m, rfl, hx, hs⟩
  replace hm := hm.call hx
  clear hx q1 p1
  go_wp2_with ((first | refine wpList_skip (by rfl) ?_ | (refine wlL (hm := hm) (hu := by first | exact undPeer | exact undID | exact undLetter) (hi := by (try simp only [rowOf_size, idC_size, peerC_size, letC_size]); first | exact sizePeer | exact sizeID | exact sizeLetter) (h := ?_); (try simp only [Act.put, k1, k2, k3]); (try simp only [← peerV_eq, ← idV_eq, ← letV_eq])) | refine wlLC (hm := hm) (hv := by first | exact let0 _ | exact let1 _ | exact let22 _ | exact let43 _ | exact let44 _ | exact let45 _ | exact let66 _ | rfl) (hu := by first | exact undInt | exact undU64 | exact undBool | exact undIntS | exact undPeerS | exact undStr) (h := ?_) | (refine yS (hm := hm) (hi := by (try simp only [rowOf_size, idC_size, peerC_size, letC_size]); first | exact sizePeer | exact sizeID | exact sizeLetter) (h := ?_); clear hm; intro w1 hm; (try simp only [rowOf_set, k1, k2, k3, Value.cells, Act.eval, k7, k8, k9, kA, Option.getD_some] at hm)) | (refine wlSC (hm := hm) (hi := by first | exact sizeInt | exact sizeU64 | exact sizeBool | exact sizeIntS | exact sizePeerS | exact sizeStr) (ho := by first | decide | (simp only [rowOf_size, idC_size, peerC_size, letC_size]; omega) | (simp; done)) (h := ?_); clear hm; intro w1 hm; (try simp only [rowOf_set, k1, k2, k3, Value.cells, Act.eval, k7, k8, k9, kA, Option.getD_some] at hm)) | (refine wlA (hz := by first | exact zeroPeer | exact zeroID | exact zeroLetter) (hm := hm) (h := ?_); clear hm; intro b1 w1 hm; (try simp only [rowOf_set, k1, k2, k3, Value.cells, Act.eval, k7, k8, k9, kA, Option.getD_some] at hm)) | (refine wl_box (by rfl) rfl (by first | exact peerV_cells _ _ | exact letV_cells _ | exact idV_cells _ | rfl) hm ?_; clear hm; intro b1 w1 hm) | ((with_reducible show wpList _ _ _ (⟨_, .build 60 _, _, _, _, _⟩ :: _) _ _); refine wl_op (by rfl) fun K hK => ?_; refine ow_value (pb5 (by first | rfl | simp [Act.eval])) (hK _ _ ?_); clear hK K) | ((with_reducible show wpList _ _ _ (⟨_, .build 63 #[], _, _, _, _⟩ :: _) _ _); refine wl_op (by rfl) fun K hK => ?_; refine ow_value (lbZ (by first | rfl | simp)) (hK _ _ ?_); clear hK K) | ((with_reducible show wpList _ _ _ (⟨_, .build 63 #[_, _, _, _], _, _, _, _⟩ :: _) _ _); refine wl_op (by rfl) fun K hK => ?_; refine ow_value (lb1 (by first | rfl | simp [Act.eval])) (hK _ _ ?_); clear hK K) | (go_at_call 36; refine (putZ_c _).mono ?_; rintro e w1 ⟨rfl, hx⟩; replace hm := hm.call hx; clear hx) | (go_at_call 43; refine (hs _).mono ?_; rintro e w1 ⟨rfl, hx⟩; replace hm := hm.call hx; clear hx) | (go_at_call 39; refine (is1_c _).mono ?_; rintro e w1 ⟨rfl, hx⟩; replace hm := hm.call hx; clear hx) | (with_reducible first | refine stBs ?_ | refine stMs ?_ | refine stAp ?_ | refine stCo ?_)); (try simp only [k4, k5, k6, Act.put, k1, k2, k3]))
  go_ret
  exact ⟨rfl, hm.ext⟩
end Go.Proofs.Ytijkmbebfodhdaa

/- (OpenL) -/
namespace Go.Proofs.Ytijkmbebfodhdaa
open Go.ChangeShapes Go.WideShapes Go.ChangeAt Go.RowKit
set_option linter.unusedVariables false
set_option maxRecDepth 20000
def nofield : Field := default
end Go.Proofs.Ytijkmbebfodhdaa

/- (LetH) -/
namespace Go.Proofs.Ytijkmbebfodhdaa
open Go.ChangeShapes Go.WideShapes Go.ChangeAt Go.RowKit
set_option linter.unusedVariables false
set_option linter.unusedSimpArgs false
set_option maxRecDepth 20000
section
variable {H : Type} {enc : TypeId × Value → H} {W : World}
theorem row_one {cs : List Value} {i : Nat} {v : Value} (h : (cs.drop i).take 1 = [v]) : cs[i]? = some v := by
  have := congrArg (fun l => l[0]?) h
  simpa using this
theorem row_more {cs xs : List Value} {i n : Nat} (h : (cs.drop i).take n = xs) {j : Nat} (hj : j < n) : cs[i + j]? = xs[j]? := by
  rw [← h, List.getElem?_take, if_pos hj, List.getElem?_drop]
theorem trod_id {fuel : Nat} {cs : List Value} {x : DataW H × List MemPlace} (hf : DataW.trod enc Try.prog W 0 (fun _ => true) true fuel 24 cs = some x) : ∃ a, cs = (idC a).toList := by
  obtain ⟨xs, m, rfl, _, hl, hxl, hx⟩ := DataW.trod_array undID hf
  have hc1 : Try.prog.cellsOf 5 = 1 := by kernel_rfl
  have hc20 : Try.prog.cellsOf 24 = 20 := by kernel_rfl
  rw [hc20] at hl
  have each : ∀ i, i < 20 → ∃ n : Nat, n < 256 ∧ cs[i]? = some (.int .u8 (n : Int)) := fun i hi => by
    have h1 := hx i hi
    rw [hc1, Nat.mul_one] at h1
    rw [List.getElem?_eq_getElem (show i < xs.length by omega)] at h1
    obtain ⟨n, e0, _, wn⟩ := DataW.trod_int undByteI h1
    have hw := bounds_u8 wn
    refine ⟨n.toNat, by omega, ?_⟩
    rw [row_one e0, show ((n.toNat : Nat) : Int) = n from by omega]
  obtain ⟨f, hf1⟩ := Go.Deep.choose_lt each
  have hf2 : ∀ i, (fun i => if i < 20 then f i else 0) i < 256 := fun i => by
    dsimp only
    split
    · rename_i h; exact (hf1 i h).1
    · omega
  refine ⟨numOf (fun i => if i < 20 then f i else 0) 20, ?_⟩
  apply List.ext_getElem?
  intro i
  by_cases hi : i < 20
  · have e2 : ∀ q, (idC q).toList[i]? = some (.int .u8 ((dig q i : Nat) : Int)) := fun q => by rw [Array.getElem?_toList, idC, rowOf_get _ _ _ hi]
    rw [(hf1 i hi).2, e2]
    have := numOf_dig _ hf2 20 i hi
    unfold dig
    rw [show 19 - i = 20 - 1 - i from by omega, this, if_pos hi]
  · rw [List.getElem?_eq_none (by omega), List.getElem?_eq_none (by rw [Array.length_toList, idC_size]; omega)]
noncomputable def pfo (i : Nat) : Field := peerFields.getD i nofield
theorem undPeer2 : Try.prog.underlying 60 = some (.struct #[pfo 0, pfo 1]) := by kernel_rfl
theorem pfo0 : (pfo 0).type = 3 ∧ (pfo 0).offset = 0 ∧ Try.prog.cellsOf (pfo 0).type = 1 := ⟨by kernel_rfl, by kernel_rfl, by kernel_rfl⟩
theorem pfo1 : (pfo 1).type = 24 ∧ (pfo 1).offset = 1 ∧ Try.prog.cellsOf (pfo 1).type = 20 := ⟨by kernel_rfl, by kernel_rfl, by kernel_rfl⟩
theorem trod_peer {fuel : Nat} {cs : List Value} {x : DataW H × List MemPlace} (hf : DataW.trod enc Try.prog W 0 (fun _ => true) true fuel 60 cs = some x) : ∃ a p, cs = (peerC a p).toList := by
  obtain ⟨xs, m, rfl, _, hl, hxl, hx⟩ := DataW.trod_struct undPeer2 hf
  have hc : Try.prog.cellsOf 60 = 21 := by kernel_rfl
  rw [hc] at hl
  have hxl' : xs.length = 2 := hxl
  obtain ⟨t0, o0, z0⟩ := pfo0
  obtain ⟨t1, o1, z1⟩ := pfo1
  have h0 := hx 0 (pfo 0) rfl
  have h1 := hx 1 (pfo 1) rfl
  rw [z0, o0, t0, List.getElem?_eq_getElem (show 0 < xs.length by omega)] at h0
  rw [z1, o1, t1, List.getElem?_eq_getElem (show 1 < xs.length by omega)] at h1
  obtain ⟨a, e0, _, _⟩ := DataW.trod_int undInt h0
  obtain ⟨p, e1⟩ := trod_id h1
  refine ⟨a, p, ?_⟩
  apply List.ext_getElem?
  intro j
  by_cases hj : j < 21
  · have e : (peerC a p).toList[j]? = some (peerF a p j) := by rw [Array.getElem?_toList, peerC_eq, rowOf_get _ _ j hj]
    rw [e]
    unfold peerF
    by_cases h : j = 0
    · rw [if_pos h, h, row_one e0]
    · rw [if_neg h]
      have := row_more e1 (show j - 1 < 20 by omega)
      rw [show 1 + (j - 1) = j by omega] at this
      rw [this]
      have e2 : (idC p).toList[j - 1]? = some (.int .u8 ((dig p (j - 1) : Nat) : Int)) := by rw [Array.getElem?_toList, idC, rowOf_get _ _ _ (by omega)]
      exact e2
  · rw [List.getElem?_eq_none (by omega), List.getElem?_eq_none (by rw [Array.length_toList, peerC_size]; omega)]
theorem trod_ints {fuel : Nat} {cs : List Value} {x : DataW H × List MemPlace} (hf : DataW.trod enc Try.prog W 0 (fun _ => true) true fuel 49 cs = some x) : ∃ c n cap z, cs = [.slice c n cap] ∧ IntsV W c n z := by
  have h1 : Try.prog.cellsOf 3 = 1 := by kernel_rfl
  rcases Go.ChangeShapes.open_ints (t := 49) (e := 3) (k := .i64) (by kernel_rfl) (by kernel_rfl) h1 hf with ⟨hcs, hx⟩ | ⟨a, len', cap', zs, hcs, _, hl, hm, hz, hx, hcell, hwz⟩
  · exact ⟨none, 0, 0, fun _ => 0, hcs, fun i hi => by omega⟩
  · simp only [if_true] at hz
    exact ⟨some a, len', cap', _, hcs, fun i hi => ⟨a, rfl, hcell i (by omega)⟩⟩
theorem trod_peers {fuel : Nat} {cs : List Value} {x : DataW H × List MemPlace} (hf : DataW.trod enc Try.prog W 0 (fun _ => true) true fuel 61 cs = some x) : ∃ c n cap za zp, cs = [.slice c n cap] ∧ PeersV W c n za zp := by
  have ce : Try.prog.cellsOf 60 = 21 := by kernel_rfl
  rcases Go.Deep.open_slice (t := 61) (e := 60) (by kernel_rfl) hf with ⟨hcs, hx⟩ | ⟨a, len', cap', m, k, D, Pl, hcs, _, hl, hm, hz, hx, hcell⟩
  · exact ⟨none, 0, 0, fun _ => 0, fun _ => 0, hcs, fun i hi => by omega⟩
  · simp only [if_true] at hz
    have each : ∀ i, i < len' → ∃ q : Int × Nat, ∀ j v, (peerC q.1 q.2).toList[j]? = some v → W.cell? ((a.add (i * 21)).add j) = some v := by
      intro i hi
      obtain ⟨cs', h1, h2⟩ := hcell i (by omega)
      rw [ce] at h1
      obtain ⟨_, hlen, hc⟩ := World.cells?_some h1
      obtain ⟨b, p, rfl⟩ := trod_peer h2
      refine ⟨(b, p), fun j v hj => ?_⟩
      have hj21 : j < 21 := by
        have := (List.getElem?_eq_some_iff.1 hj).1
        rwa [Array.length_toList, peerC_size] at this
      rw [hc j hj21]
      exact hj
    obtain ⟨q, hq⟩ := Go.Deep.choose_lt each
    exact ⟨some a, len', cap', fun i => (q i).1, fun i => (q i).2, hcs, fun i hi => ⟨a, rfl, hq i hi⟩⟩
noncomputable def lfo (i : Nat) : Field := letFields.getD i nofield
theorem undLetter2 : Try.prog.underlying 63 = some (.struct #[lfo 0, lfo 1, lfo 2, lfo 3, lfo 4, lfo 5, lfo 6, lfo 7]) := by kernel_rfl
theorem lfo0 : (lfo 0).type = 3 ∧ (lfo 0).offset = 0 ∧ Try.prog.cellsOf (lfo 0).type = 1 := ⟨by kernel_rfl, by kernel_rfl, by kernel_rfl⟩
theorem lfo1 : (lfo 1).type = 60 ∧ (lfo 1).offset = 1 ∧ Try.prog.cellsOf (lfo 1).type = 21 := ⟨by kernel_rfl, by kernel_rfl, by kernel_rfl⟩
theorem lfo2 : (lfo 2).type = 22 ∧ (lfo 2).offset = 22 ∧ Try.prog.cellsOf (lfo 2).type = 1 := ⟨by kernel_rfl, by kernel_rfl, by kernel_rfl⟩
theorem lfo3 : (lfo 3).type = 24 ∧ (lfo 3).offset = 23 ∧ Try.prog.cellsOf (lfo 3).type = 20 := ⟨by kernel_rfl, by kernel_rfl, by kernel_rfl⟩
theorem lfo4 : (lfo 4).type = 49 ∧ (lfo 4).offset = 43 ∧ Try.prog.cellsOf (lfo 4).type = 1 := ⟨by kernel_rfl, by kernel_rfl, by kernel_rfl⟩
theorem lfo5 : (lfo 5).type = 4 ∧ (lfo 5).offset = 44 ∧ Try.prog.cellsOf (lfo 5).type = 1 := ⟨by kernel_rfl, by kernel_rfl, by kernel_rfl⟩
theorem lfo6 : (lfo 6).type = 60 ∧ (lfo 6).offset = 45 ∧ Try.prog.cellsOf (lfo 6).type = 21 := ⟨by kernel_rfl, by kernel_rfl, by kernel_rfl⟩
theorem lfo7 : (lfo 7).type = 61 ∧ (lfo 7).offset = 66 ∧ Try.prog.cellsOf (lfo 7).type = 1 := ⟨by kernel_rfl, by kernel_rfl, by kernel_rfl⟩
theorem open_letter {base : Nat} {v : Value} {d : DataW H} {p : List MemPlace} (hv : Value.okWide Try.prog W .any base 63 v) (h : DataW.Trod enc Try.prog W 0 (fun _ => true) true 63 v d p) :
    ∃ (l : Let) (r : Rows5), v = letV l ∧ l.req < 2 ^ 64 ∧ LetAt W l r := by
  unfold Value.okWide at hv
  rw [undLetter2] at hv
  obtain ⟨cs, rfl, hcs, _⟩ := hv
  obtain ⟨fuel, hf⟩ := h
  obtain ⟨xs, m, rfl, _, hl, hxl, hx⟩ := DataW.trod_struct undLetter2 hf
  have hc : Try.prog.cellsOf 63 = 67 := by kernel_rfl
  rw [hc] at hl
  have hxl' : xs.length = 8 := hxl
  have hcl : (Value.agg cs).cells.toList = cs.toList := rfl
  rw [hcl] at hl hx
  obtain ⟨t0, o0, z0⟩ := lfo0
  obtain ⟨t1, o1, z1⟩ := lfo1
  obtain ⟨t2, o2, z2⟩ := lfo2
  obtain ⟨t3, o3, z3⟩ := lfo3
  obtain ⟨t4, o4, z4⟩ := lfo4
  obtain ⟨t5, o5, z5⟩ := lfo5
  obtain ⟨t6, o6, z6⟩ := lfo6
  obtain ⟨t7, o7, z7⟩ := lfo7
  have h0 := hx 0 (lfo 0) rfl
  have h1 := hx 1 (lfo 1) rfl
  have h2 := hx 2 (lfo 2) rfl
  have h3 := hx 3 (lfo 3) rfl
  have h4 := hx 4 (lfo 4) rfl
  have h5 := hx 5 (lfo 5) rfl
  have h6 := hx 6 (lfo 6) rfl
  have h7 := hx 7 (lfo 7) rfl
  rw [z0, o0, t0, List.getElem?_eq_getElem (show 0 < xs.length by omega)] at h0
  rw [z1, o1, t1, List.getElem?_eq_getElem (show 1 < xs.length by omega)] at h1
  rw [z2, o2, t2, List.getElem?_eq_getElem (show 2 < xs.length by omega)] at h2
  rw [z3, o3, t3, List.getElem?_eq_getElem (show 3 < xs.length by omega)] at h3
  rw [z4, o4, t4, List.getElem?_eq_getElem (show 4 < xs.length by omega)] at h4
  rw [z5, o5, t5, List.getElem?_eq_getElem (show 5 < xs.length by omega)] at h5
  rw [z6, o6, t6, List.getElem?_eq_getElem (show 6 < xs.length by omega)] at h6
  rw [z7, o7, t7, List.getElem?_eq_getElem (show 7 < xs.length by omega)] at h7
  obtain ⟨kd, e0, _, _⟩ := DataW.trod_int undInt h0
  obtain ⟨fa, fi, e1⟩ := trod_peer h1
  obtain ⟨rq, e2, _, wr⟩ := DataW.trod_int undU64 h2
  obtain ⟨rq, rfl, hrq⟩ := nat_u64 rq wr
  obtain ⟨id, e3⟩ := trod_id h3
  obtain ⟨ac, an, acap, z, e4, ha⟩ := trod_ints h4
  obtain ⟨dn, e5, _⟩ := DataW.trod_bool undBool h5
  obtain ⟨pa, pi, e6⟩ := trod_peer h6
  obtain ⟨pc, pn, pcap, za, zp, e7, hp⟩ := trod_peers h7
  refine ⟨⟨kd, fa, fi, rq, id, ac, an, acap, dn, pa, pi, pc, pn, pcap⟩, ⟨z, za, zp⟩, ?_, hrq, ha, hp⟩
  rw [letV_eq]
  congr 1
  refine let_ext (by rw [Array.length_toList] at hl; exact hl) fun j hj => ?_
  rw [← Array.getElem?_toList]
  have pe : ∀ (a : Int) (q i : Nat), i < 21 → (peerC a q).toList[i]? = some (peerF a q i) := fun a q i hi => by rw [Array.getElem?_toList, peerC_eq, rowOf_get _ _ i hi]
  unfold letF
  dsimp only
  by_cases q0 : j = 0
  · rw [if_pos q0, q0, row_one e0]
  rw [if_neg q0]
  by_cases q1 : j < 22
  · rw [if_pos q1, ← pe fa fi (j - 1) (by omega), ← row_more e1 (show j - 1 < 21 by omega), show 1 + (j - 1) = j by omega]
  rw [if_neg q1]
  by_cases q2 : j = 22
  · rw [if_pos q2, q2, row_one e2]
  rw [if_neg q2]
  by_cases q3 : j < 43
  · rw [if_pos q3]
    have := row_more e3 (show j - 23 < 20 by omega)
    rw [show 23 + (j - 23) = j by omega] at this
    rw [this, Array.getElem?_toList, idC, rowOf_get _ _ _ (by omega)]
  rw [if_neg q3]
  by_cases q4 : j = 43
  · rw [if_pos q4, q4, row_one e4]
  rw [if_neg q4]
  by_cases q5 : j = 44
  · rw [if_pos q5, q5, row_one e5]
  rw [if_neg q5]
  by_cases q6 : j < 66
  · rw [if_pos q6, ← pe pa pi (j - 45) (by omega), ← row_more e6 (show j - 45 < 21 by omega), show 45 + (j - 45) = j by omega]
  rw [if_neg q6]
  have : j = 66 := by omega
  rw [this, row_one e7]
end
end Go.Proofs.Ytijkmbebfodhdaa

/- (LetW) -/
namespace Go.Proofs.Ytijkmbebfodhdaa
open Go.RowKit
set_option linter.unusedSimpArgs false
set_option linter.unusedVariables false
set_option maxHeartbeats 2000000
set_option maxRecDepth 20000
theorem idb {a : Act} {w : World} {dst : Option Tmp} {ty : TypeId} {pos : String} {aft : Array Edge} {gd : Option (Nat × Bool)} {parts : Array (Nat × Operand)} (hp : (parts.map fun (i, x) => (i, a.eval x)).toList = []) : (execOp a.eval ⟨dst, .build 24 parts, ty, pos, aft, gd⟩).run Try.prog w = .ok (.value (idV 0)) w := by
  rw [idV_zero]; exact ld_build built_id hp
attribute [local irreducible] wpQuiet wpList wpAnyH Calls
theorem refIs_early (l : Let) (nn fo a16 p8 po f2 c1 c2 : Bool) (f0 f1 f2' f3 f4 f5 : Bool)
    (hof : Says 63 #[.int .i64 l.kind] (.agg #[.bool f0, .bool f1, .bool f2', .bool f3, .bool f4, .bool f5]))
    (hfo : Says 71 #[.int .i64 l.fa] (.bool (!fo))) (hpo : Says 71 #[.int .i64 l.pa] (.bool (!po)))
    (d1 : decide (l.kind < 1) = c1) (d2 : decide (8 < l.kind) = c2)
    (ha : decide (16 < l.an) = a16) (ha' : decide ((16 : Int) < (l.an : Int)) = a16) (hq : decide (8 < l.pn) = p8) (hq' : decide ((8 : Int) < (l.pn : Int)) = p8)
    (hnn : samePeer l.pa l.pi (-1) 0 = nn) (hk2 : (l.kind == 2) = f2)
    (hbad : c1 = true ∨ c2 = true ∨ fo = true ∨ a16 = true ∨ p8 = true ∨ (nn = true ∧ f2 = true) ∨ (nn = false ∧ po = true)) :
    Says 40 #[letV l] (.bool false) := by
  intro w
  go_enter Try.func40, Try.ntmps40
  have hm := Mem.refl w []
  go_wp2_with (with_reducible first | refine stAl ?_ | refine stBo ?_ | refine stLo ?_ | refine stSo ?_ | refine stBu ?_ | refine stBs ?_ | refine stMs ?_ | refine stAp ?_ | refine stCo ?_); refine Stop.go (wl_box (by rfl) rfl (letV_cells l) hm ?_); clear hm; intro b1 w1 hm; simp only [Act.put, k1, k2, k3]; (try simp only [rowOf_set, k1, k2, k3, Value.cells, Act.eval, k7, k8, k9, kA, Option.getD_some] at hm)
  go_wp2_with ((first | refine wpList_skip (by rfl) ?_ | (refine wlL (hm := hm) (hu := by first | exact undPeer | exact undID | exact undLetter | exact undParts) (hi := by (try simp only [rowOf_size, idC_size, peerC_size, letC_size]); first | exact sizePeer | exact sizeID | exact sizeLetter | exact sizeParts) (h := ?_); (try simp only [Act.put, k1, k2, k3]); (try simp only [← peerV_eq, ← idV_eq, ← letV_eq])) | (refine wlM (hm := hm) (hv := by first | exact let_id _ | exact let_from _ | exact let_peer _) (hu := by first | exact undPeer | exact undID | exact undLetter | exact undParts) (hi := by (try simp only [rowOf_size, idC_size, peerC_size, letC_size]); first | exact sizePeer | exact sizeID | exact sizeLetter | exact sizeParts) (h := ?_); (try simp only [Act.put, k1, k2, k3]); (try simp only [← peerV_eq, ← idV_eq, ← letV_eq])) | refine wlLC (hm := hm) (hv := by first | exact let0 _ | exact let1 _ | exact let22 _ | exact let43 _ | exact let44 _ | exact let45 _ | exact let66 _ | rfl) (hu := by first | exact undInt | exact undU64 | exact undBool | exact undIntS | exact undPeerS) (h := ?_) | (refine yS (hm := hm) (hi := by (try simp only [rowOf_size, idC_size, peerC_size, letC_size]); first | exact sizePeer | exact sizeID | exact sizeLetter | exact sizeParts) (h := ?_); clear hm; intro w1 hm; (try simp only [rowOf_set, k1, k2, k3, Value.cells, Act.eval, k7, k8, k9, kA, Option.getD_some] at hm)) | (refine wlSC (hm := hm) (hi := by first | exact sizeInt | exact sizeU64 | exact sizeBool | exact sizeIntS | exact sizePeerS) (ho := by first | decide | (simp only [rowOf_size, idC_size, peerC_size, letC_size]; omega) | (simp; done)) (h := ?_); clear hm; intro w1 hm; (try simp only [rowOf_set, k1, k2, k3, Value.cells, Act.eval, k7, k8, k9, kA, Option.getD_some] at hm)) | (refine wlA (hz := by first | exact zeroPeer | exact zeroID | exact zeroLetter | exact zeroParts) (hm := hm) (h := ?_); clear hm; intro b1 w1 hm; (try simp only [rowOf_set, k1, k2, k3, Value.cells, Act.eval, k7, k8, k9, kA, Option.getD_some] at hm)) | (refine wl_box (by rfl) rfl (by first | exact peerV_cells _ _ | exact letV_cells _ | exact idV_cells _ | rfl) hm ?_; clear hm; intro b1 w1 hm) | ((with_reducible show wpList _ _ _ (⟨_, .build 24 _, _, _, _, _⟩ :: _) _ _); refine wl_op (by rfl) fun K hK => ?_; refine ow_value (idb (by simp)) (hK _ _ ?_); clear hK K) | (go_at_call 65; refine (refNone_c _).mono ?_; rintro e w1 ⟨rfl, hx⟩; replace hm := hm.call hx; clear hx) | (go_at_call 63; refine (hof _).mono ?_; rintro e w1 ⟨rfl, hx⟩; replace hm := hm.call hx; clear hx) | (go_at_call 71; refine (hfo _).mono ?_; rintro e w1 ⟨rfl, hx⟩; replace hm := hm.call hx; clear hx) | (go_at_call 71; refine (hpo _).mono ?_; rintro e w1 ⟨rfl, hx⟩; replace hm := hm.call hx; clear hx) | (with_reducible first | refine stBs ?_ | refine stMs ?_ | refine stAp ?_ | refine stCo ?_)); (try simp only [k4, k5, k6, Act.put, k1, k2, k3]))
  refine wp_quiet_mem (by kernel_rfl) (by kernel_rfl) hm ?_
  repeat ((first | refine wq_skip (by rfl) ?_ | (refine wqL (hu := by first | exact undPeer | exact undID | exact undLetter | exact undParts) (hi := by (try simp only [rowOf_size, idC_size, peerC_size, letC_size]); first | exact sizePeer | exact sizeID | exact sizeLetter | exact sizeParts) (h := ?_); (try simp only [Act.put, k1, k2, k3]); (try simp only [← peerV_eq, ← idV_eq, ← letV_eq])) | (refine wqM (hv := by first | exact let_id _ | exact let_from _ | exact let_peer _) (hu := by first | exact undPeer | exact undID | exact undLetter | exact undParts) (hi := by (try simp only [rowOf_size, idC_size, peerC_size, letC_size]); first | exact sizePeer | exact sizeID | exact sizeLetter | exact sizeParts) (h := ?_); (try simp only [Act.put, k1, k2, k3]); (try simp only [← peerV_eq, ← idV_eq, ← letV_eq])) | refine wqLC (hv := by first | exact let0 _ | exact let1 _ | exact let22 _ | exact let43 _ | exact let44 _ | exact let45 _ | exact let66 _ | rfl) (hu := by first | exact undInt | exact undU64 | exact undBool | exact undIntS | exact undPeerS) (h := ?_) | ((with_reducible show wpQuiet _ _ _ _ (⟨_, .call _, _, _, _, _⟩ :: _) _); refine wq_ask (by rfl) ?_; apply Exists.intro; refine ⟨?_, ?_⟩; (focus (intro w hC; go_simp; first | (go_at_call 65; exact (refNone_c _).mono fun e w' h => ⟨h.1, hC.call h.2⟩) | (go_at_call 63; exact (hof _).mono fun e w' h => ⟨h.1, hC.call h.2⟩) | (go_at_call 71; exact (hfo _).mono fun e w' h => ⟨h.1, hC.call h.2⟩) | (go_at_call 71; exact (hpo _).mono fun e w' h => ⟨h.1, hC.call h.2⟩)))) | ((with_reducible show wpQuiet _ _ _ _ (⟨_, .build 24 _, _, _, _, _⟩ :: _) _); refine wqS (h1 := fun w _ => idb (by simp)) (h := ?_)) | refine wqS (h := ?_)); (try simp only [k4, k5, k6, Act.put, k1, k2, k3]))
  refine wpQuiet_nil ?_; clear hm; intro w2 hm
  rcases c1 with _ | _
  rotate_left
  · clear hbad
    go_wp2_with ((first | refine wpList_skip (by rfl) ?_ | (refine wlL (hm := hm) (hu := by first | exact undPeer | exact undID | exact undLetter | exact undParts) (hi := by (try simp only [rowOf_size, idC_size, peerC_size, letC_size]); first | exact sizePeer | exact sizeID | exact sizeLetter | exact sizeParts) (h := ?_); (try simp only [Act.put, k1, k2, k3]); (try simp only [← peerV_eq, ← idV_eq, ← letV_eq])) | (refine wlM (hm := hm) (hv := by first | exact let_id _ | exact let_from _ | exact let_peer _) (hu := by first | exact undPeer | exact undID | exact undLetter | exact undParts) (hi := by (try simp only [rowOf_size, idC_size, peerC_size, letC_size]); first | exact sizePeer | exact sizeID | exact sizeLetter | exact sizeParts) (h := ?_); (try simp only [Act.put, k1, k2, k3]); (try simp only [← peerV_eq, ← idV_eq, ← letV_eq])) | refine wlLC (hm := hm) (hv := by first | exact let0 _ | exact let1 _ | exact let22 _ | exact let43 _ | exact let44 _ | exact let45 _ | exact let66 _ | rfl) (hu := by first | exact undInt | exact undU64 | exact undBool | exact undIntS | exact undPeerS) (h := ?_) | (refine yS (hm := hm) (hi := by (try simp only [rowOf_size, idC_size, peerC_size, letC_size]); first | exact sizePeer | exact sizeID | exact sizeLetter | exact sizeParts) (h := ?_); clear hm; intro w1 hm; (try simp only [rowOf_set, k1, k2, k3, Value.cells, Act.eval, k7, k8, k9, kA, Option.getD_some] at hm)) | (refine wlSC (hm := hm) (hi := by first | exact sizeInt | exact sizeU64 | exact sizeBool | exact sizeIntS | exact sizePeerS) (ho := by first | decide | (simp only [rowOf_size, idC_size, peerC_size, letC_size]; omega) | (simp; done)) (h := ?_); clear hm; intro w1 hm; (try simp only [rowOf_set, k1, k2, k3, Value.cells, Act.eval, k7, k8, k9, kA, Option.getD_some] at hm)) | (refine wlA (hz := by first | exact zeroPeer | exact zeroID | exact zeroLetter | exact zeroParts) (hm := hm) (h := ?_); clear hm; intro b1 w1 hm; (try simp only [rowOf_set, k1, k2, k3, Value.cells, Act.eval, k7, k8, k9, kA, Option.getD_some] at hm)) | (refine wl_box (by rfl) rfl (by first | exact peerV_cells _ _ | exact letV_cells _ | exact idV_cells _ | rfl) hm ?_; clear hm; intro b1 w1 hm) | ((with_reducible show wpList _ _ _ (⟨_, .build 24 _, _, _, _, _⟩ :: _) _ _); refine wl_op (by rfl) fun K hK => ?_; refine ow_value (idb (by simp)) (hK _ _ ?_); clear hK K) | (go_at_call 65; refine (refNone_c _).mono ?_; rintro e w1 ⟨rfl, hx⟩; replace hm := hm.call hx; clear hx) | (go_at_call 63; refine (hof _).mono ?_; rintro e w1 ⟨rfl, hx⟩; replace hm := hm.call hx; clear hx) | (go_at_call 71; refine (hfo _).mono ?_; rintro e w1 ⟨rfl, hx⟩; replace hm := hm.call hx; clear hx) | (go_at_call 71; refine (hpo _).mono ?_; rintro e w1 ⟨rfl, hx⟩; replace hm := hm.call hx; clear hx) | (with_reducible first | refine stBs ?_ | refine stMs ?_ | refine stAp ?_ | refine stCo ?_)); (try simp only [k4, k5, k6, Act.put, k1, k2, k3]))
    go_ret
    exact ⟨rfl, hm.ext⟩
  rcases c2 with _ | _
  rotate_left
  · clear hbad
    go_wp2_with ((first | refine wpList_skip (by rfl) ?_ | (refine wlL (hm := hm) (hu := by first | exact undPeer | exact undID | exact undLetter | exact undParts) (hi := by (try simp only [rowOf_size, idC_size, peerC_size, letC_size]); first | exact sizePeer | exact sizeID | exact sizeLetter | exact sizeParts) (h := ?_); (try simp only [Act.put, k1, k2, k3]); (try simp only [← peerV_eq, ← idV_eq, ← letV_eq])) | (refine wlM (hm := hm) (hv := by first | exact let_id _ | exact let_from _ | exact let_peer _) (hu := by first | exact undPeer | exact undID | exact undLetter | exact undParts) (hi := by (try simp only [rowOf_size, idC_size, peerC_size, letC_size]); first | exact sizePeer | exact sizeID | exact sizeLetter | exact sizeParts) (h := ?_); (try simp only [Act.put, k1, k2, k3]); (try simp only [← peerV_eq, ← idV_eq, ← letV_eq])) | refine wlLC (hm := hm) (hv := by first | exact let0 _ | exact let1 _ | exact let22 _ | exact let43 _ | exact let44 _ | exact let45 _ | exact let66 _ | rfl) (hu := by first | exact undInt | exact undU64 | exact undBool | exact undIntS | exact undPeerS) (h := ?_) | (refine yS (hm := hm) (hi := by (try simp only [rowOf_size, idC_size, peerC_size, letC_size]); first | exact sizePeer | exact sizeID | exact sizeLetter | exact sizeParts) (h := ?_); clear hm; intro w1 hm; (try simp only [rowOf_set, k1, k2, k3, Value.cells, Act.eval, k7, k8, k9, kA, Option.getD_some] at hm)) | (refine wlSC (hm := hm) (hi := by first | exact sizeInt | exact sizeU64 | exact sizeBool | exact sizeIntS | exact sizePeerS) (ho := by first | decide | (simp only [rowOf_size, idC_size, peerC_size, letC_size]; omega) | (simp; done)) (h := ?_); clear hm; intro w1 hm; (try simp only [rowOf_set, k1, k2, k3, Value.cells, Act.eval, k7, k8, k9, kA, Option.getD_some] at hm)) | (refine wlA (hz := by first | exact zeroPeer | exact zeroID | exact zeroLetter | exact zeroParts) (hm := hm) (h := ?_); clear hm; intro b1 w1 hm; (try simp only [rowOf_set, k1, k2, k3, Value.cells, Act.eval, k7, k8, k9, kA, Option.getD_some] at hm)) | (refine wl_box (by rfl) rfl (by first | exact peerV_cells _ _ | exact letV_cells _ | exact idV_cells _ | rfl) hm ?_; clear hm; intro b1 w1 hm) | ((with_reducible show wpList _ _ _ (⟨_, .build 24 _, _, _, _, _⟩ :: _) _ _); refine wl_op (by rfl) fun K hK => ?_; refine ow_value (idb (by simp)) (hK _ _ ?_); clear hK K) | (go_at_call 65; refine (refNone_c _).mono ?_; rintro e w1 ⟨rfl, hx⟩; replace hm := hm.call hx; clear hx) | (go_at_call 63; refine (hof _).mono ?_; rintro e w1 ⟨rfl, hx⟩; replace hm := hm.call hx; clear hx) | (go_at_call 71; refine (hfo _).mono ?_; rintro e w1 ⟨rfl, hx⟩; replace hm := hm.call hx; clear hx) | (go_at_call 71; refine (hpo _).mono ?_; rintro e w1 ⟨rfl, hx⟩; replace hm := hm.call hx; clear hx) | (with_reducible first | refine stBs ?_ | refine stMs ?_ | refine stAp ?_ | refine stCo ?_)); (try simp only [k4, k5, k6, Act.put, k1, k2, k3]))
    go_ret
    exact ⟨rfl, hm.ext⟩
  rcases fo with _ | _
  rotate_left
  · clear hbad
    go_wp2_with ((first | refine wpList_skip (by rfl) ?_ | (refine wlL (hm := hm) (hu := by first | exact undPeer | exact undID | exact undLetter | exact undParts) (hi := by (try simp only [rowOf_size, idC_size, peerC_size, letC_size]); first | exact sizePeer | exact sizeID | exact sizeLetter | exact sizeParts) (h := ?_); (try simp only [Act.put, k1, k2, k3]); (try simp only [← peerV_eq, ← idV_eq, ← letV_eq])) | (refine wlM (hm := hm) (hv := by first | exact let_id _ | exact let_from _ | exact let_peer _) (hu := by first | exact undPeer | exact undID | exact undLetter | exact undParts) (hi := by (try simp only [rowOf_size, idC_size, peerC_size, letC_size]); first | exact sizePeer | exact sizeID | exact sizeLetter | exact sizeParts) (h := ?_); (try simp only [Act.put, k1, k2, k3]); (try simp only [← peerV_eq, ← idV_eq, ← letV_eq])) | refine wlLC (hm := hm) (hv := by first | exact let0 _ | exact let1 _ | exact let22 _ | exact let43 _ | exact let44 _ | exact let45 _ | exact let66 _ | rfl) (hu := by first | exact undInt | exact undU64 | exact undBool | exact undIntS | exact undPeerS) (h := ?_) | (refine yS (hm := hm) (hi := by (try simp only [rowOf_size, idC_size, peerC_size, letC_size]); first | exact sizePeer | exact sizeID | exact sizeLetter | exact sizeParts) (h := ?_); clear hm; intro w1 hm; (try simp only [rowOf_set, k1, k2, k3, Value.cells, Act.eval, k7, k8, k9, kA, Option.getD_some] at hm)) | (refine wlSC (hm := hm) (hi := by first | exact sizeInt | exact sizeU64 | exact sizeBool | exact sizeIntS | exact sizePeerS) (ho := by first | decide | (simp only [rowOf_size, idC_size, peerC_size, letC_size]; omega) | (simp; done)) (h := ?_); clear hm; intro w1 hm; (try simp only [rowOf_set, k1, k2, k3, Value.cells, Act.eval, k7, k8, k9, kA, Option.getD_some] at hm)) | (refine wlA (hz := by first | exact zeroPeer | exact zeroID | exact zeroLetter | exact zeroParts) (hm := hm) (h := ?_); clear hm; intro b1 w1 hm; (try simp only [rowOf_set, k1, k2, k3, Value.cells, Act.eval, k7, k8, k9, kA, Option.getD_some] at hm)) | (refine wl_box (by rfl) rfl (by first | exact peerV_cells _ _ | exact letV_cells _ | exact idV_cells _ | rfl) hm ?_; clear hm; intro b1 w1 hm) | ((with_reducible show wpList _ _ _ (⟨_, .build 24 _, _, _, _, _⟩ :: _) _ _); refine wl_op (by rfl) fun K hK => ?_; refine ow_value (idb (by simp)) (hK _ _ ?_); clear hK K) | (go_at_call 65; refine (refNone_c _).mono ?_; rintro e w1 ⟨rfl, hx⟩; replace hm := hm.call hx; clear hx) | (go_at_call 63; refine (hof _).mono ?_; rintro e w1 ⟨rfl, hx⟩; replace hm := hm.call hx; clear hx) | (go_at_call 71; refine (hfo _).mono ?_; rintro e w1 ⟨rfl, hx⟩; replace hm := hm.call hx; clear hx) | (go_at_call 71; refine (hpo _).mono ?_; rintro e w1 ⟨rfl, hx⟩; replace hm := hm.call hx; clear hx) | (with_reducible first | refine stBs ?_ | refine stMs ?_ | refine stAp ?_ | refine stCo ?_)); (try simp only [k4, k5, k6, Act.put, k1, k2, k3]))
    go_ret
    exact ⟨rfl, hm.ext⟩
  rcases a16 with _ | _
  rotate_left
  · clear hbad
    go_wp2_with ((first | refine wpList_skip (by rfl) ?_ | (refine wlL (hm := hm) (hu := by first | exact undPeer | exact undID | exact undLetter | exact undParts) (hi := by (try simp only [rowOf_size, idC_size, peerC_size, letC_size]); first | exact sizePeer | exact sizeID | exact sizeLetter | exact sizeParts) (h := ?_); (try simp only [Act.put, k1, k2, k3]); (try simp only [← peerV_eq, ← idV_eq, ← letV_eq])) | (refine wlM (hm := hm) (hv := by first | exact let_id _ | exact let_from _ | exact let_peer _) (hu := by first | exact undPeer | exact undID | exact undLetter | exact undParts) (hi := by (try simp only [rowOf_size, idC_size, peerC_size, letC_size]); first | exact sizePeer | exact sizeID | exact sizeLetter | exact sizeParts) (h := ?_); (try simp only [Act.put, k1, k2, k3]); (try simp only [← peerV_eq, ← idV_eq, ← letV_eq])) | refine wlLC (hm := hm) (hv := by first | exact let0 _ | exact let1 _ | exact let22 _ | exact let43 _ | exact let44 _ | exact let45 _ | exact let66 _ | rfl) (hu := by first | exact undInt | exact undU64 | exact undBool | exact undIntS | exact undPeerS) (h := ?_) | (refine yS (hm := hm) (hi := by (try simp only [rowOf_size, idC_size, peerC_size, letC_size]); first | exact sizePeer | exact sizeID | exact sizeLetter | exact sizeParts) (h := ?_); clear hm; intro w1 hm; (try simp only [rowOf_set, k1, k2, k3, Value.cells, Act.eval, k7, k8, k9, kA, Option.getD_some] at hm)) | (refine wlSC (hm := hm) (hi := by first | exact sizeInt | exact sizeU64 | exact sizeBool | exact sizeIntS | exact sizePeerS) (ho := by first | decide | (simp only [rowOf_size, idC_size, peerC_size, letC_size]; omega) | (simp; done)) (h := ?_); clear hm; intro w1 hm; (try simp only [rowOf_set, k1, k2, k3, Value.cells, Act.eval, k7, k8, k9, kA, Option.getD_some] at hm)) | (refine wlA (hz := by first | exact zeroPeer | exact zeroID | exact zeroLetter | exact zeroParts) (hm := hm) (h := ?_); clear hm; intro b1 w1 hm; (try simp only [rowOf_set, k1, k2, k3, Value.cells, Act.eval, k7, k8, k9, kA, Option.getD_some] at hm)) | (refine wl_box (by rfl) rfl (by first | exact peerV_cells _ _ | exact letV_cells _ | exact idV_cells _ | rfl) hm ?_; clear hm; intro b1 w1 hm) | ((with_reducible show wpList _ _ _ (⟨_, .build 24 _, _, _, _, _⟩ :: _) _ _); refine wl_op (by rfl) fun K hK => ?_; refine ow_value (idb (by simp)) (hK _ _ ?_); clear hK K) | (go_at_call 65; refine (refNone_c _).mono ?_; rintro e w1 ⟨rfl, hx⟩; replace hm := hm.call hx; clear hx) | (go_at_call 63; refine (hof _).mono ?_; rintro e w1 ⟨rfl, hx⟩; replace hm := hm.call hx; clear hx) | (go_at_call 71; refine (hfo _).mono ?_; rintro e w1 ⟨rfl, hx⟩; replace hm := hm.call hx; clear hx) | (go_at_call 71; refine (hpo _).mono ?_; rintro e w1 ⟨rfl, hx⟩; replace hm := hm.call hx; clear hx) | (with_reducible first | refine stBs ?_ | refine stMs ?_ | refine stAp ?_ | refine stCo ?_)); (try simp only [k4, k5, k6, Act.put, k1, k2, k3]))
    go_ret
    exact ⟨rfl, hm.ext⟩
  rcases p8 with _ | _
  rotate_left
  · clear hbad
    go_wp2_with ((first | refine wpList_skip (by rfl) ?_ | (refine wlL (hm := hm) (hu := by first | exact undPeer | exact undID | exact undLetter | exact undParts) (hi := by (try simp only [rowOf_size, idC_size, peerC_size, letC_size]); first | exact sizePeer | exact sizeID | exact sizeLetter | exact sizeParts) (h := ?_); (try simp only [Act.put, k1, k2, k3]); (try simp only [← peerV_eq, ← idV_eq, ← letV_eq])) | (refine wlM (hm := hm) (hv := by first | exact let_id _ | exact let_from _ | exact let_peer _) (hu := by first | exact undPeer | exact undID | exact undLetter | exact undParts) (hi := by (try simp only [rowOf_size, idC_size, peerC_size, letC_size]); first | exact sizePeer | exact sizeID | exact sizeLetter | exact sizeParts) (h := ?_); (try simp only [Act.put, k1, k2, k3]); (try simp only [← peerV_eq, ← idV_eq, ← letV_eq])) | refine wlLC (hm := hm) (hv := by first | exact let0 _ | exact let1 _ | exact let22 _ | exact let43 _ | exact let44 _ | exact let45 _ | exact let66 _ | rfl) (hu := by first | exact undInt | exact undU64 | exact undBool | exact undIntS | exact undPeerS) (h := ?_) | (refine yS (hm := hm) (hi := by (try simp only [rowOf_size, idC_size, peerC_size, letC_size]); first | exact sizePeer | exact sizeID | exact sizeLetter | exact sizeParts) (h := ?_); clear hm; intro w1 hm; (try simp only [rowOf_set, k1, k2, k3, Value.cells, Act.eval, k7, k8, k9, kA, Option.getD_some] at hm)) | (refine wlSC (hm := hm) (hi := by first | exact sizeInt | exact sizeU64 | exact sizeBool | exact sizeIntS | exact sizePeerS) (ho := by first | decide | (simp only [rowOf_size, idC_size, peerC_size, letC_size]; omega) | (simp; done)) (h := ?_); clear hm; intro w1 hm; (try simp only [rowOf_set, k1, k2, k3, Value.cells, Act.eval, k7, k8, k9, kA, Option.getD_some] at hm)) | (refine wlA (hz := by first | exact zeroPeer | exact zeroID | exact zeroLetter | exact zeroParts) (hm := hm) (h := ?_); clear hm; intro b1 w1 hm; (try simp only [rowOf_set, k1, k2, k3, Value.cells, Act.eval, k7, k8, k9, kA, Option.getD_some] at hm)) | (refine wl_box (by rfl) rfl (by first | exact peerV_cells _ _ | exact letV_cells _ | exact idV_cells _ | rfl) hm ?_; clear hm; intro b1 w1 hm) | ((with_reducible show wpList _ _ _ (⟨_, .build 24 _, _, _, _, _⟩ :: _) _ _); refine wl_op (by rfl) fun K hK => ?_; refine ow_value (idb (by simp)) (hK _ _ ?_); clear hK K) | (go_at_call 65; refine (refNone_c _).mono ?_; rintro e w1 ⟨rfl, hx⟩; replace hm := hm.call hx; clear hx) | (go_at_call 63; refine (hof _).mono ?_; rintro e w1 ⟨rfl, hx⟩; replace hm := hm.call hx; clear hx) | (go_at_call 71; refine (hfo _).mono ?_; rintro e w1 ⟨rfl, hx⟩; replace hm := hm.call hx; clear hx) | (go_at_call 71; refine (hpo _).mono ?_; rintro e w1 ⟨rfl, hx⟩; replace hm := hm.call hx; clear hx) | (with_reducible first | refine stBs ?_ | refine stMs ?_ | refine stAp ?_ | refine stCo ?_)); (try simp only [k4, k5, k6, Act.put, k1, k2, k3]))
    go_ret
    exact ⟨rfl, hm.ext⟩
  rcases nn with _ | _
  · rcases po with _ | _
    · simp at hbad
    · clear hbad
      go_wp2_with ((first | refine wpList_skip (by rfl) ?_ | (refine wlL (hm := hm) (hu := by first | exact undPeer | exact undID | exact undLetter | exact undParts) (hi := by (try simp only [rowOf_size, idC_size, peerC_size, letC_size]); first | exact sizePeer | exact sizeID | exact sizeLetter | exact sizeParts) (h := ?_); (try simp only [Act.put, k1, k2, k3]); (try simp only [← peerV_eq, ← idV_eq, ← letV_eq])) | (refine wlM (hm := hm) (hv := by first | exact let_id _ | exact let_from _ | exact let_peer _) (hu := by first | exact undPeer | exact undID | exact undLetter | exact undParts) (hi := by (try simp only [rowOf_size, idC_size, peerC_size, letC_size]); first | exact sizePeer | exact sizeID | exact sizeLetter | exact sizeParts) (h := ?_); (try simp only [Act.put, k1, k2, k3]); (try simp only [← peerV_eq, ← idV_eq, ← letV_eq])) | refine wlLC (hm := hm) (hv := by first | exact let0 _ | exact let1 _ | exact let22 _ | exact let43 _ | exact let44 _ | exact let45 _ | exact let66 _ | rfl) (hu := by first | exact undInt | exact undU64 | exact undBool | exact undIntS | exact undPeerS) (h := ?_) | (refine yS (hm := hm) (hi := by (try simp only [rowOf_size, idC_size, peerC_size, letC_size]); first | exact sizePeer | exact sizeID | exact sizeLetter | exact sizeParts) (h := ?_); clear hm; intro w1 hm; (try simp only [rowOf_set, k1, k2, k3, Value.cells, Act.eval, k7, k8, k9, kA, Option.getD_some] at hm)) | (refine wlSC (hm := hm) (hi := by first | exact sizeInt | exact sizeU64 | exact sizeBool | exact sizeIntS | exact sizePeerS) (ho := by first | decide | (simp only [rowOf_size, idC_size, peerC_size, letC_size]; omega) | (simp; done)) (h := ?_); clear hm; intro w1 hm; (try simp only [rowOf_set, k1, k2, k3, Value.cells, Act.eval, k7, k8, k9, kA, Option.getD_some] at hm)) | (refine wlA (hz := by first | exact zeroPeer | exact zeroID | exact zeroLetter | exact zeroParts) (hm := hm) (h := ?_); clear hm; intro b1 w1 hm; (try simp only [rowOf_set, k1, k2, k3, Value.cells, Act.eval, k7, k8, k9, kA, Option.getD_some] at hm)) | (refine wl_box (by rfl) rfl (by first | exact peerV_cells _ _ | exact letV_cells _ | exact idV_cells _ | rfl) hm ?_; clear hm; intro b1 w1 hm) | ((with_reducible show wpList _ _ _ (⟨_, .build 24 _, _, _, _, _⟩ :: _) _ _); refine wl_op (by rfl) fun K hK => ?_; refine ow_value (idb (by simp)) (hK _ _ ?_); clear hK K) | (go_at_call 65; refine (refNone_c _).mono ?_; rintro e w1 ⟨rfl, hx⟩; replace hm := hm.call hx; clear hx) | (go_at_call 63; refine (hof _).mono ?_; rintro e w1 ⟨rfl, hx⟩; replace hm := hm.call hx; clear hx) | (go_at_call 71; refine (hfo _).mono ?_; rintro e w1 ⟨rfl, hx⟩; replace hm := hm.call hx; clear hx) | (go_at_call 71; refine (hpo _).mono ?_; rintro e w1 ⟨rfl, hx⟩; replace hm := hm.call hx; clear hx) | (with_reducible first | refine stBs ?_ | refine stMs ?_ | refine stAp ?_ | refine stCo ?_)); (try simp only [k4, k5, k6, Act.put, k1, k2, k3]))
      go_ret
      exact ⟨rfl, hm.ext⟩
  · rcases f2 with _ | _
    · simp at hbad
    · clear hbad
      go_wp2_with ((first | refine wpList_skip (by rfl) ?_ | (refine wlL (hm := hm) (hu := by first | exact undPeer | exact undID | exact undLetter | exact undParts) (hi := by (try simp only [rowOf_size, idC_size, peerC_size, letC_size]); first | exact sizePeer | exact sizeID | exact sizeLetter | exact sizeParts) (h := ?_); (try simp only [Act.put, k1, k2, k3]); (try simp only [← peerV_eq, ← idV_eq, ← letV_eq])) | (refine wlM (hm := hm) (hv := by first | exact let_id _ | exact let_from _ | exact let_peer _) (hu := by first | exact undPeer | exact undID | exact undLetter | exact undParts) (hi := by (try simp only [rowOf_size, idC_size, peerC_size, letC_size]); first | exact sizePeer | exact sizeID | exact sizeLetter | exact sizeParts) (h := ?_); (try simp only [Act.put, k1, k2, k3]); (try simp only [← peerV_eq, ← idV_eq, ← letV_eq])) | refine wlLC (hm := hm) (hv := by first | exact let0 _ | exact let1 _ | exact let22 _ | exact let43 _ | exact let44 _ | exact let45 _ | exact let66 _ | rfl) (hu := by first | exact undInt | exact undU64 | exact undBool | exact undIntS | exact undPeerS) (h := ?_) | (refine yS (hm := hm) (hi := by (try simp only [rowOf_size, idC_size, peerC_size, letC_size]); first | exact sizePeer | exact sizeID | exact sizeLetter | exact sizeParts) (h := ?_); clear hm; intro w1 hm; (try simp only [rowOf_set, k1, k2, k3, Value.cells, Act.eval, k7, k8, k9, kA, Option.getD_some] at hm)) | (refine wlSC (hm := hm) (hi := by first | exact sizeInt | exact sizeU64 | exact sizeBool | exact sizeIntS | exact sizePeerS) (ho := by first | decide | (simp only [rowOf_size, idC_size, peerC_size, letC_size]; omega) | (simp; done)) (h := ?_); clear hm; intro w1 hm; (try simp only [rowOf_set, k1, k2, k3, Value.cells, Act.eval, k7, k8, k9, kA, Option.getD_some] at hm)) | (refine wlA (hz := by first | exact zeroPeer | exact zeroID | exact zeroLetter | exact zeroParts) (hm := hm) (h := ?_); clear hm; intro b1 w1 hm; (try simp only [rowOf_set, k1, k2, k3, Value.cells, Act.eval, k7, k8, k9, kA, Option.getD_some] at hm)) | (refine wl_box (by rfl) rfl (by first | exact peerV_cells _ _ | exact letV_cells _ | exact idV_cells _ | rfl) hm ?_; clear hm; intro b1 w1 hm) | ((with_reducible show wpList _ _ _ (⟨_, .build 24 _, _, _, _, _⟩ :: _) _ _); refine wl_op (by rfl) fun K hK => ?_; refine ow_value (idb (by simp)) (hK _ _ ?_); clear hK K) | (go_at_call 65; refine (refNone_c _).mono ?_; rintro e w1 ⟨rfl, hx⟩; replace hm := hm.call hx; clear hx) | (go_at_call 63; refine (hof _).mono ?_; rintro e w1 ⟨rfl, hx⟩; replace hm := hm.call hx; clear hx) | (go_at_call 71; refine (hfo _).mono ?_; rintro e w1 ⟨rfl, hx⟩; replace hm := hm.call hx; clear hx) | (go_at_call 71; refine (hpo _).mono ?_; rintro e w1 ⟨rfl, hx⟩; replace hm := hm.call hx; clear hx) | (with_reducible first | refine stBs ?_ | refine stMs ?_ | refine stAp ?_ | refine stCo ?_)); (try simp only [k4, k5, k6, Act.put, k1, k2, k3]))
      go_ret
      exact ⟨rfl, hm.ext⟩
end Go.Proofs.Ytijkmbebfodhdaa
