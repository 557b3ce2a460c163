/- Texts joined by program: LetDB. -/
import Derived.Test.YtijkmbebfodhdaaEApart5
/- (LetDB)
  Letters: what Get answers, told by what is read of the bytes.
-/
namespace Go.Proofs.Ytijkmbebfodhdaa
open Go.RowKit
set_option linter.unusedSimpArgs false
set_option linter.unusedVariables false
set_option maxHeartbeats 1000000
set_option maxRecDepth 20000
attribute [local irreducible] wpQuiet wpList wpAnyH Calls

/-- What is read ends with a wrong form or ahead of the end. -/
def Er {α : Type} (g : ByteArray → Except Nat α) : Prop := ∀ s x, g s = .error x → x = 3 ∨ x = 4
theorem Er.bind {α β : Type} {g : ByteArray → Except Nat (α × ByteArray)} {F : α × ByteArray → Except Nat β} (h1 : Er g) (h2 : ∀ a, Er fun s => F (a, s)) : Er fun s => g s >>= F := fun s x h => by
  have h' : (g s >>= F) = .error x := h
  cases hg : g s with
  | error y =>
    rw [hg, bind_er] at h'
    obtain rfl : y = x := by simpa using h'
    exact h1 s _ hg
  | ok a =>
    rw [hg, bind_ok] at h'
    exact h2 a.1 a.2 x h'
theorem Er.ok {α : Type} (f : ByteArray → α) : Er fun s => .ok (f s) := fun s x h => by cases h
theorem er_num (lo hi : Nat) : Er (gN lo hi) := fun s x h => by
  unfold gN at h
  by_cases h0 : numS s ≠ 0
  · rw [if_pos h0] at h
    obtain rfl : numS s = x := by simpa using h
    unfold numS numE at h0 ⊢
    repeat (first | omega | split | (split at h0))
  · rw [if_neg h0] at h
    split at h
    · exact .inl (by simpa using h.symm)
    · cases h
theorem er_plc : Er gI := fun s x h => by
  unfold gI at h
  split at h
  · exact .inr (by simpa using h.symm)
  · cases h
theorem er_peer : Er gP := by
  unfold gP
  exact Er.bind (er_num 0 999) fun a => Er.bind er_plc fun p => Er.ok _
theorem er_many {α : Type} {g : ByteArray → Except Nat (α × ByteArray)} (h : Er g) : ∀ n, Er (gMany g n)
  | 0 => fun s x h => by cases h
  | n + 1 => Er.bind (er_many h n) fun l => Er.bind h fun y => Er.ok _
theorem er_opN (f : Bool) (lo hi : Nat) : Er (opN f lo hi) := by
  cases f
  · exact Er.ok _
  · exact er_num lo hi
theorem er_opI (f : Bool) : Er (opI f) := by
  cases f
  · exact Er.ok _
  · exact er_plc
theorem er_opM {α : Type} {g : ByteArray → Except Nat (α × ByteArray)} (h : Er g) (f : Bool) (most : Nat) : Er (opM g f most) := by
  cases f
  · exact Er.ok _
  · exact Er.bind (er_num 0 most) fun n => er_many h n
theorem er_opP (f : Bool) : Er (opP f) := by
  cases f
  · exact Er.ok _
  · exact Er.bind er_peer fun q => Er.ok _
theorem er_get : Er getA := fun s x h => by
  rw [getA_body] at h
  have hb : Er bodyA := by
    unfold bodyA
    refine Er.bind (er_num _ _) fun _ => ?_
    dsimp only
    refine Er.bind (er_peer) fun _ => ?_
    dsimp only
    refine Er.bind (er_opN _ _ _) fun _ => ?_
    dsimp only
    refine Er.bind (er_opI _) fun _ => ?_
    dsimp only
    refine Er.bind (er_opM (er_num _ _) _ _) fun _ => ?_
    dsimp only
    refine Er.bind (er_opN _ _ _) fun _ => ?_
    dsimp only
    refine Er.bind (er_opN _ _ _) fun _ => ?_
    dsimp only
    refine Er.bind (er_opP _) fun _ => ?_
    dsimp only
    refine Er.bind (er_opM er_peer _ _) fun _ => ?_
    dsimp only
    exact Er.ok _
  refine Er.bind (F := fun z => if 0 < z.2.size then .error 3 else .ok z.1) hb (fun a s x h => ?_) s x h
  dsimp only at h
  split at h
  · exact .inl (by simpa using h.symm)
  · cases h
theorem get_empty : getA { data := #[] } = .error 4 :=
  getA_cut ok1 (t := { data := #[] }) (u := putA LA1) ByteArray.empty_append (by rw [put1]; decide)
/-- What Get answers of bytes: the error alone. -/
def GetX (s : ByteArray) (x : Int) : Prop := ∀ w, Calls Try.prog 41 #[.string s] w fun e w' => ∃ m, e = .returned (.tuple #[letV m, .int .i64 x]) ∧ Ext w w'
theorem getX_ok {s : ByteArray} {A : LA} (h : getA s = .ok A) : GetX s 0 := fun w => by
  refine (get_c s w).mono ?_
  rintro e w' ⟨m, x, S, rfl, hm, h'⟩
  rcases h' with ⟨A', hA, rfl, hl⟩ | ⟨hA, _⟩
  · exact ⟨m, rfl, hm.ext⟩
  · rw [h] at hA; cases hA
theorem getX_err {s : ByteArray} {y : Nat} (h : getA s = .error y) : GetX s (y : Int) := fun w => by
  refine (get_c s w).mono ?_
  rintro e w' ⟨m, x, S, rfl, hm, h'⟩
  rcases h' with ⟨A', hA, rfl, hl⟩ | ⟨hA, _⟩
  · rw [h] at hA; cases hA
  · rw [h] at hA
    obtain rfl : y = x := by simpa using hA
    exact ⟨m, rfl, hm.ext⟩
/-- What Get answers of bytes that are no letter. -/
def GetN (s : ByteArray) (x : Int) : Prop := ∀ w, Calls Try.prog 41 #[.string s] w fun e w' => e = .returned (.tuple #[letV letZ, .int .i64 x]) ∧ Ext w w'
theorem getN_err {s : ByteArray} {y : Nat} (h : getA s = .error y) : GetN s (y : Int) := fun w => by
  refine (get_c s w).mono ?_
  rintro e w' ⟨m, x, S, rfl, hm, h'⟩
  rcases h' with ⟨A', hA, rfl, hl⟩ | ⟨hA, rfl, rfl⟩
  · rw [h] at hA; cases hA
  · rw [h] at hA
    obtain rfl : y = x := by simpa using hA
    exact ⟨rfl, hm.ext⟩
/-- What Get answers of a letter's bytes: it, its slices in blocks that Get made. -/
def GetY (s : ByteArray) (A : LA) : Prop := ∀ w, Calls Try.prog 41 #[.string s] w fun e w' => ∃ m S, e = .returned (.tuple #[letV m, .int .i64 0]) ∧ Mem w [] S w' ∧ IsL S m A
theorem getY_ok {s : ByteArray} {A : LA} (h : getA s = .ok A) : GetY s A := fun w => by
  refine (get_c s w).mono ?_
  rintro e w' ⟨m, x, S, rfl, hm, h'⟩
  rcases h' with ⟨A', hA, rfl, hl⟩ | ⟨hA, _⟩
  · rw [h] at hA
    obtain rfl : A = A' := by simpa using hA
    exact ⟨m, S, rfl, hm, hl⟩
  · rw [h] at hA; cases hA
end Go.Proofs.Ytijkmbebfodhdaa
