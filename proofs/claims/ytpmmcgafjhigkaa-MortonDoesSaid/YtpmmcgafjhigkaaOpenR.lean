/-
  How a rectangle that came in is read.
-/
import Derived.Test.YtpmmcgafjhigkaaOpenL
import Derived.Test.YtpmmcgafjhigkaaMorB
namespace Go.Proofs.Ytpmmcgafjhigkaa
open Go.ChangeShapes Go.WideShapes Go.ChangeAt Go.RowKit
set_option linter.unusedVariables false

noncomputable def rf (i : Nat) : Field := rectFields.getD i nofield
theorem undRect4 : Try.prog.underlying 30 = some (.struct #[rf 0, rf 1, rf 2, rf 3]) := by kernel_rfl
theorem rf0 : (rf 0).type = 22 := by kernel_rfl
theorem rf1 : (rf 1).type = 22 := by kernel_rfl
theorem rf2 : (rf 2).type = 22 := by kernel_rfl
theorem rf3 : (rf 3).type = 22 := by kernel_rfl
theorem open_rect {H : Type} {enc : TypeId × Value → H} {W : World} {base : Nat} {s : Nat → Bool} {held : Bool} {v : Value} {d : DataW H} {p : List MemPlace}
    (hv : Value.okWide Try.prog W .any base 30 v) (h : DataW.Trod enc Try.prog W 0 s held 30 v d p) : ∃ a b c d : Nat, v = rectV a b c d ∧ (a < 2 ^ 32 ∧ b < 2 ^ 32 ∧ c < 2 ^ 32 ∧ d < 2 ^ 32) := by
  obtain ⟨v0, v1, v2, v3, y0, y1, y2, y3, n, rfl, _, _, h0, h1, h2, h3⟩ := Go.Joins.open_agg4 undRect4 (by kernel_rfl) (by kernel_rfl) hv h
  rw [rf0] at h0
  rw [rf1] at h1
  rw [rf2] at h2
  rw [rf3] at h3
  obtain ⟨a, e0, _, w0⟩ := DataW.trod_int undU32 h0
  obtain ⟨b, e1, _, w1⟩ := DataW.trod_int undU32 h1
  obtain ⟨c, e2, _, w2⟩ := DataW.trod_int undU32 h2
  obtain ⟨d, e3, _, w3⟩ := DataW.trod_int undU32 h3
  obtain ⟨a, rfl, ha⟩ := nat_u32 a w0
  obtain ⟨b, rfl, hb⟩ := nat_u32 b w1
  obtain ⟨c, rfl, hc⟩ := nat_u32 c w2
  obtain ⟨d, rfl, hd⟩ := nat_u32 d w3
  simp only [List.cons.injEq, and_true] at e0 e1 e2 e3
  exact ⟨a, b, c, d, by rw [rectV_eq, e0, e1, e2, e3], ha, hb, hc, hd⟩
end Go.Proofs.Ytpmmcgafjhigkaa
