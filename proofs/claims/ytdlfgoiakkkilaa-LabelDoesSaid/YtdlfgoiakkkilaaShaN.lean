/-
  Sums: what a block's step makes of a state (plain).
-/
import Derived.Test.YtdlfgoiakkkilaaShaV
namespace Go.Proofs.Ytdlfgoiakkkilaa
open Go.RowKit
set_option linter.unusedSimpArgs false
set_option linter.unusedVariables false

theorem wrap_add32 (x y : Nat) : IntKind.u32.wrap ((x : Int) + (y : Int)) = (((x + y) % 2 ^ 32 : Nat) : Int) := by rw [← Int.natCast_add]; exact wrap_mod32 _
theorem sum5 (a b c d e : Nat) : (((((a + b) % 2 ^ 32 + c) % 2 ^ 32) + d) % 2 ^ 32 + e) % 2 ^ 32 = (a + b + c + d + e) % 2 ^ 32 := by
  have : (2 : Nat) ^ 32 = 4294967296 := by decide
  rw [this]; omega
structure St where
  (a b c d e : Nat)
deriving DecidableEq
def St.ok (s : St) : Prop := s.a < 2 ^ 32 ∧ s.b < 2 ^ 32 ∧ s.c < 2 ^ 32 ∧ s.d < 2 ^ 32 ∧ s.e < 2 ^ 32
def St.val (s : St) : Value := stV s.a s.b s.c s.d s.e
/-- A round, with the word v. -/
def St.turn (t v : Nat) (s : St) : St := ⟨(rot 5 s.a + mixM t s.b s.c s.d + s.e + addM t + v) % 2 ^ 32, s.a, rot 30 s.b, s.c, s.d⟩
def St.turns (F : Nat → Nat) : Nat → St → St
  | 0, s => s
  | t + 1, s => (s.turns F t).turn t (F t)
def St.plus (s u : St) : St := ⟨(s.a + u.a) % 2 ^ 32, (s.b + u.b) % 2 ^ 32, (s.c + u.c) % 2 ^ 32, (s.d + u.d) % 2 ^ 32, (s.e + u.e) % 2 ^ 32⟩
def St.part (s u : St) (k : Nat) : St := ⟨if 0 < k then (s.a + u.a) % 2 ^ 32 else s.a, if 1 < k then (s.b + u.b) % 2 ^ 32 else s.b, if 2 < k then (s.c + u.c) % 2 ^ 32 else s.c, if 3 < k then (s.d + u.d) % 2 ^ 32 else s.d, if 4 < k then (s.e + u.e) % 2 ^ 32 else s.e⟩
theorem St.part5 (s u : St) : s.part u 5 = s.plus u := rfl
def stepM (f : Nat → Nat) (s : St) : St := s.plus (s.turns (wd f) 80)
theorem St.turn_ok {s : St} (h : s.ok) (t v : Nat) : (s.turn t v).ok := ⟨Nat.mod_lt _ (by decide), h.1, rot_lt _ _ h.2.1, h.2.2.1, h.2.2.2.1⟩
theorem St.turns_ok {s : St} (h : s.ok) (F : Nat → Nat) : ∀ t, (s.turns F t).ok
  | 0 => h
  | t + 1 => St.turn_ok (St.turns_ok h F t) t _
theorem St.plus_ok (s u : St) : (s.plus u).ok := ⟨Nat.mod_lt _ (by decide), Nat.mod_lt _ (by decide), Nat.mod_lt _ (by decide), Nat.mod_lt _ (by decide), Nat.mod_lt _ (by decide)⟩
theorem St.val_eq (s : St) : s.val = .agg #[.int .u32 (s.a : Int), .int .u32 (s.b : Int), .int .u32 (s.c : Int), .int .u32 (s.d : Int), .int .u32 (s.e : Int)] := stV_eq _ _ _ _ _

end Go.Proofs.Ytdlfgoiakkkilaa
