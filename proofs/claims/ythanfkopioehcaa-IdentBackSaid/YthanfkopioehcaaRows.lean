/-
  No cell of these rows narrows 'for every input' (looked for: loops, veiled, ifaces, maps, wideKeys, modest, calm, conditions, laid).
  DERIVED. THE GIVEN ROWS OF THIS SEAT. 6 by the template 'for every input the law returns true; each argument reads behind the call as it read before'; 0 by the template 'total and deterministic' (their statements: YthanfkopioehcaaTotals.lean).
  GIVEN WITH THE SEED: the statements are not yours to turn. If you find one false, say at which input.
  Laid BY PROGRAM, IN A SANDBOX (cutbox-rows.mjs): the forced cells as the released guide's own fill.sh prints them over the translation ebf4d72378535ec6… (all of the seat's roots in one cut). By AI agents, Wed Nov 11 2026. No macro, syntax, notation, axiom, sorry.
-/
import Derived.Test.YthanfkopioehcaaChecked
import GoSem.Claim
import GoSem.ClaimJoined
import GoSem.ClaimMapViews
import Derived.JoinedTies
import Derived.KernelRfl
namespace Go.Proofs.Ythanfkopioehcaa
/- THE CELL 'sum', in the pinned program and in every row, IS THE sha256 OF THE DUMP (.gsa) THAT YthanfkopioehcaaProg.lean LOADS. Nothing in Lean hashes anything: it is a label: what it is worth is what the hold of that sum in a sandbox is worth. -/
noncomputable def Try.pinned : Pinned := { name := "ythanfkopioehcaa", sum := "ebf4d72378535ec6fc55763412c535962fd3c624582c60c5e0290ea1ed673596", checked := Try.checked }
namespace Rows
def none {H : Type} : Left H := { results := [], args := [] }

/-- 'espalierlaw01.IdentDoes': WHATEVER THE INPUT: true; the input reads as it did. -/
def identDoesSpec : ChangeSpec := { name := "identDoes", fn := fun _ => fun
  | [d1, d2, d3, d4] => { results := [.lit (.bool true)], args := [d1, d2, d3, d4] }
  | _ => none }
def identDoesRow : OpenClaim := { program := "ythanfkopioehcaa", sum := "ebf4d72378535ec6fc55763412c535962fd3c624582c60c5e0290ea1ed673596", func := "espalier/espalierlaw01.IdentDoes", spec := "identDoes", inPlace := ["internal/bytealg.Compare"], apart := false }
def IdentDoesSaid : Prop := identDoesRow.holds Try.pinned (OpenSpec.ofChange identDoesSpec)

/-- ITS FALSE NEIGHBOUR: 'it returns false'. Refute it at one input. -/
def identDoesWrong : ChangeSpec := { name := "identDoes", fn := fun _ => fun
  | [d1, d2, d3, d4] => { results := [.lit (.bool false)], args := [d1, d2, d3, d4] }
  | _ => none }
def IdentDoesWrongFalsely : Prop := identDoesRow.holds Try.pinned (OpenSpec.ofChange identDoesWrong)

/-- 'espalierlaw01.IdentSums': WHATEVER THE INPUT: true; the input reads as it did. -/
def identSumsSpec : ChangeSpec := { name := "identSums", fn := fun _ => fun
  | [d1, d2, d3] => { results := [.lit (.bool true)], args := [d1, d2, d3] }
  | _ => none }
def identSumsRow : OpenClaim := { program := "ythanfkopioehcaa", sum := "ebf4d72378535ec6fc55763412c535962fd3c624582c60c5e0290ea1ed673596", func := "espalier/espalierlaw01.IdentSums", spec := "identSums", inPlace := ["internal/bytealg.Compare"], apart := false }
def IdentSumsSaid : Prop := identSumsRow.holds Try.pinned (OpenSpec.ofChange identSumsSpec)

/-- ITS FALSE NEIGHBOUR: 'it returns false'. Refute it at one input. -/
def identSumsWrong : ChangeSpec := { name := "identSums", fn := fun _ => fun
  | [d1, d2, d3] => { results := [.lit (.bool false)], args := [d1, d2, d3] }
  | _ => none }
def IdentSumsWrongFalsely : Prop := identSumsRow.holds Try.pinned (OpenSpec.ofChange identSumsWrong)

/-- 'espalierlaw01.IdentArcs': WHATEVER THE INPUT: true; the input reads as it did. -/
def identArcsSpec : ChangeSpec := { name := "identArcs", fn := fun _ => fun
  | [d1, d2, d3] => { results := [.lit (.bool true)], args := [d1, d2, d3] }
  | _ => none }
def identArcsRow : OpenClaim := { program := "ythanfkopioehcaa", sum := "ebf4d72378535ec6fc55763412c535962fd3c624582c60c5e0290ea1ed673596", func := "espalier/espalierlaw01.IdentArcs", spec := "identArcs", inPlace := ["internal/bytealg.Compare"], apart := false }
def IdentArcsSaid : Prop := identArcsRow.holds Try.pinned (OpenSpec.ofChange identArcsSpec)

/-- ITS FALSE NEIGHBOUR: 'it returns false'. Refute it at one input. -/
def identArcsWrong : ChangeSpec := { name := "identArcs", fn := fun _ => fun
  | [d1, d2, d3] => { results := [.lit (.bool false)], args := [d1, d2, d3] }
  | _ => none }
def IdentArcsWrongFalsely : Prop := identArcsRow.holds Try.pinned (OpenSpec.ofChange identArcsWrong)

/-- 'espalierlaw01.IdentTurns': WHATEVER THE INPUT: true; the input reads as it did. -/
def identTurnsSpec : ChangeSpec := { name := "identTurns", fn := fun _ => fun
  | [d1, d2, d3, d4, d5] => { results := [.lit (.bool true)], args := [d1, d2, d3, d4, d5] }
  | _ => none }
def identTurnsRow : OpenClaim := { program := "ythanfkopioehcaa", sum := "ebf4d72378535ec6fc55763412c535962fd3c624582c60c5e0290ea1ed673596", func := "espalier/espalierlaw01.IdentTurns", spec := "identTurns", inPlace := ["internal/bytealg.Compare"], apart := false }
def IdentTurnsSaid : Prop := identTurnsRow.holds Try.pinned (OpenSpec.ofChange identTurnsSpec)

/-- ITS FALSE NEIGHBOUR: 'it returns false'. Refute it at one input. -/
def identTurnsWrong : ChangeSpec := { name := "identTurns", fn := fun _ => fun
  | [d1, d2, d3, d4, d5] => { results := [.lit (.bool false)], args := [d1, d2, d3, d4, d5] }
  | _ => none }
def IdentTurnsWrongFalsely : Prop := identTurnsRow.holds Try.pinned (OpenSpec.ofChange identTurnsWrong)

/-- 'espalierlaw01.IdentWrites': WHATEVER THE INPUT: true; the input reads as it did. -/
def identWritesSpec : ChangeSpec := { name := "identWrites", fn := fun _ => fun
  | [d1, d2] => { results := [.lit (.bool true)], args := [d1, d2] }
  | _ => none }
def identWritesRow : OpenClaim := { program := "ythanfkopioehcaa", sum := "ebf4d72378535ec6fc55763412c535962fd3c624582c60c5e0290ea1ed673596", func := "espalier/espalierlaw01.IdentWrites", spec := "identWrites", inPlace := ["internal/bytealg.Compare"], apart := false }
def IdentWritesSaid : Prop := identWritesRow.holds Try.pinned (OpenSpec.ofChange identWritesSpec)

/-- ITS FALSE NEIGHBOUR: 'it returns false'. Refute it at one input. -/
def identWritesWrong : ChangeSpec := { name := "identWrites", fn := fun _ => fun
  | [d1, d2] => { results := [.lit (.bool false)], args := [d1, d2] }
  | _ => none }
def IdentWritesWrongFalsely : Prop := identWritesRow.holds Try.pinned (OpenSpec.ofChange identWritesWrong)

/-- 'espalierlaw01.IdentBack': WHATEVER THE INPUT: true; the input reads as it did. -/
def identBackSpec : ChangeSpec := { name := "identBack", fn := fun _ => fun
  | [d1, d2] => { results := [.lit (.bool true)], args := [d1, d2] }
  | _ => none }
def identBackRow : OpenClaim := { program := "ythanfkopioehcaa", sum := "ebf4d72378535ec6fc55763412c535962fd3c624582c60c5e0290ea1ed673596", func := "espalier/espalierlaw01.IdentBack", spec := "identBack", inPlace := ["internal/bytealg.Compare"], apart := false }
def IdentBackSaid : Prop := identBackRow.holds Try.pinned (OpenSpec.ofChange identBackSpec)

/-- ITS FALSE NEIGHBOUR: 'it returns false'. Refute it at one input. -/
def identBackWrong : ChangeSpec := { name := "identBack", fn := fun _ => fun
  | [d1, d2] => { results := [.lit (.bool false)], args := [d1, d2] }
  | _ => none }
def IdentBackWrongFalsely : Prop := identBackRow.holds Try.pinned (OpenSpec.ofChange identBackWrong)

/- THE SECOND FORM. 'bulk': how many values and letters a reading holds, each counted each time it is reached (what is shared counts as often as it is met; a slice's spare places count too). A statement '..UptoSaid' is the law's where the arguments, and the package variables that the reading takes, are together of bulk at most 1048576: NARROWER than '..Said'. Prove '..Said' where nothing that the law and all that it calls make is longer than what came in: it says more and counts as full. Else prove '..UptoSaid'. A law counts once. -/
mutual
def uptoBulk {H : Type} : DataW H → Nat
  | .lit (.string bytes) => bytes.length + 1
  | .lit _ => 1
  | .nil => 1
  | .ptr d => uptoBulk d + 1
  | .slice elems spare => uptoBulkAll elems + uptoBulkAll spare + 1
  | .agg parts => uptoBulkAll parts + 1
  | .iface _ d => uptoBulk d + 1
  | .map entries => uptoBulkEntries entries + 1
  | .held _ => 1
def uptoBulkAll {H : Type} : List (DataW H) → Nat
  | [] => 0
  | d :: r => uptoBulk d + uptoBulkAll r
def uptoBulkEntries {H : Type} : List (Lit × DataW H) → Nat
  | [] => 0
  | x :: r => uptoBulkEntry x + uptoBulkEntries r
def uptoBulkEntry {H : Type} : Lit × DataW H → Nat
  | (.string bytes, d) => bytes.length + uptoBulk d + 1
  | (_, d) => uptoBulk d + 1
 end
def uptoSmall : (H : Type) → List (DataW H) → Bool := fun _ ds => decide (uptoBulkAll ds ≤ 1048576)
def OpenSpec.upto (s : _root_.Go.ChangeSpec) : _root_.Go.OpenSpec := { _root_.Go.OpenSpec.ofChange s with cond := some uptoSmall }

/-- 'espalierlaw01.IdentDoes', WHERE WHAT IT READS IS OF BULK AT MOST 1048576: true; the input reads as it did. -/
def identDoesUptoRow : OpenClaim := { program := "ythanfkopioehcaa", sum := "ebf4d72378535ec6fc55763412c535962fd3c624582c60c5e0290ea1ed673596", func := "espalier/espalierlaw01.IdentDoes", spec := "identDoes", inPlace := ["internal/bytealg.Compare"], apart := false, narrowed := true }
def IdentDoesUptoSaid : Prop := identDoesUptoRow.holds Try.pinned (OpenSpec.upto identDoesSpec)

/-- 'espalierlaw01.IdentSums', WHERE WHAT IT READS IS OF BULK AT MOST 1048576: true; the input reads as it did. -/
def identSumsUptoRow : OpenClaim := { program := "ythanfkopioehcaa", sum := "ebf4d72378535ec6fc55763412c535962fd3c624582c60c5e0290ea1ed673596", func := "espalier/espalierlaw01.IdentSums", spec := "identSums", inPlace := ["internal/bytealg.Compare"], apart := false, narrowed := true }
def IdentSumsUptoSaid : Prop := identSumsUptoRow.holds Try.pinned (OpenSpec.upto identSumsSpec)

/-- 'espalierlaw01.IdentArcs', WHERE WHAT IT READS IS OF BULK AT MOST 1048576: true; the input reads as it did. -/
def identArcsUptoRow : OpenClaim := { program := "ythanfkopioehcaa", sum := "ebf4d72378535ec6fc55763412c535962fd3c624582c60c5e0290ea1ed673596", func := "espalier/espalierlaw01.IdentArcs", spec := "identArcs", inPlace := ["internal/bytealg.Compare"], apart := false, narrowed := true }
def IdentArcsUptoSaid : Prop := identArcsUptoRow.holds Try.pinned (OpenSpec.upto identArcsSpec)

/-- 'espalierlaw01.IdentTurns', WHERE WHAT IT READS IS OF BULK AT MOST 1048576: true; the input reads as it did. -/
def identTurnsUptoRow : OpenClaim := { program := "ythanfkopioehcaa", sum := "ebf4d72378535ec6fc55763412c535962fd3c624582c60c5e0290ea1ed673596", func := "espalier/espalierlaw01.IdentTurns", spec := "identTurns", inPlace := ["internal/bytealg.Compare"], apart := false, narrowed := true }
def IdentTurnsUptoSaid : Prop := identTurnsUptoRow.holds Try.pinned (OpenSpec.upto identTurnsSpec)

/-- 'espalierlaw01.IdentWrites', WHERE WHAT IT READS IS OF BULK AT MOST 1048576: true; the input reads as it did. -/
def identWritesUptoRow : OpenClaim := { program := "ythanfkopioehcaa", sum := "ebf4d72378535ec6fc55763412c535962fd3c624582c60c5e0290ea1ed673596", func := "espalier/espalierlaw01.IdentWrites", spec := "identWrites", inPlace := ["internal/bytealg.Compare"], apart := false, narrowed := true }
def IdentWritesUptoSaid : Prop := identWritesUptoRow.holds Try.pinned (OpenSpec.upto identWritesSpec)

/-- 'espalierlaw01.IdentBack', WHERE WHAT IT READS IS OF BULK AT MOST 1048576: true; the input reads as it did. -/
def identBackUptoRow : OpenClaim := { program := "ythanfkopioehcaa", sum := "ebf4d72378535ec6fc55763412c535962fd3c624582c60c5e0290ea1ed673596", func := "espalier/espalierlaw01.IdentBack", spec := "identBack", inPlace := ["internal/bytealg.Compare"], apart := false, narrowed := true }
def IdentBackUptoSaid : Prop := identBackUptoRow.holds Try.pinned (OpenSpec.upto identBackSpec)

end Rows
end Go.Proofs.Ythanfkopioehcaa
