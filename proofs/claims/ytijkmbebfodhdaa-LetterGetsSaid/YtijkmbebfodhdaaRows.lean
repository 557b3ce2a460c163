/-
  No cell of these rows narrows 'for every input' (looked for: loops, veiled, ifaces, maps, wideKeys, modest, calm, conditions, laid).
  DERIVED. THE GIVEN ROWS OF THIS SEAT. 10 by the template 'for every input the law returns true; each argument reads behind the call as it read before'; 0 by the template 'total and deterministic' (their statements: YtijkmbebfodhdaaTotals.lean).
  GIVEN WITH THE SEED: the statements are not yours to turn. If you find one false, say at which input.
  Laid BY PROGRAM, IN A SANDBOX (cutbox-rows.mjs): the forced cells as the released guide's own fill.sh prints them over the translation 0731f41cbd852585… (all of the seat's roots in one cut). By AI agents, Wed Nov 11 2026. No macro, syntax, notation, axiom, sorry.
-/
import Derived.Test.YtijkmbebfodhdaaChecked
import GoSem.Claim
import GoSem.ClaimJoined
import GoSem.ClaimMapViews
import Derived.JoinedTies
import Derived.KernelRfl
namespace Go.Proofs.Ytijkmbebfodhdaa
/- THE CELL 'sum', in the pinned program and in every row, IS THE sha256 OF THE DUMP (.gsa) THAT YtijkmbebfodhdaaProg.lean LOADS. Nothing in Lean hashes anything: it is a label: what it is worth is what the hold of that sum in a sandbox is worth. -/
noncomputable def Try.pinned : Pinned := { name := "ytijkmbebfodhdaa", sum := "0731f41cbd852585491a53959db27b087962dc0383ae044d078b378ffb2d54f9", checked := Try.checked }
namespace Rows
def none {H : Type} : Left H := { results := [], args := [] }

/-- 'espalierlaw05.WirePuts': WHATEVER THE INPUT: true; the input reads as it did. -/
def wirePutsSpec : ChangeSpec := { name := "wirePuts", fn := fun _ => fun
  | [d1, d2, d3, d4, d5] => { results := [.lit (.bool true)], args := [d1, d2, d3, d4, d5] }
  | _ => none }
def wirePutsRow : OpenClaim := { program := "ytijkmbebfodhdaa", sum := "0731f41cbd852585491a53959db27b087962dc0383ae044d078b378ffb2d54f9", func := "espalier/espalierlaw05.WirePuts", spec := "wirePuts", unfollowed := true, recurses := true, apart := false }
def WirePutsSaid : Prop := wirePutsRow.holds Try.pinned (OpenSpec.ofChange wirePutsSpec)

/-- ITS FALSE NEIGHBOUR: 'it returns false'. Refute it at one input. -/
def wirePutsWrong : ChangeSpec := { name := "wirePuts", fn := fun _ => fun
  | [d1, d2, d3, d4, d5] => { results := [.lit (.bool false)], args := [d1, d2, d3, d4, d5] }
  | _ => none }
def WirePutsWrongFalsely : Prop := wirePutsRow.holds Try.pinned (OpenSpec.ofChange wirePutsWrong)

/-- 'espalierlaw05.WireCut': WHATEVER THE INPUT: true; the input reads as it did. -/
def wireCutSpec : ChangeSpec := { name := "wireCut", fn := fun _ => fun
  | [d1, d2, d3, d4] => { results := [.lit (.bool true)], args := [d1, d2, d3, d4] }
  | _ => none }
def wireCutRow : OpenClaim := { program := "ytijkmbebfodhdaa", sum := "0731f41cbd852585491a53959db27b087962dc0383ae044d078b378ffb2d54f9", func := "espalier/espalierlaw05.WireCut", spec := "wireCut", unfollowed := true, recurses := true, apart := false }
def WireCutSaid : Prop := wireCutRow.holds Try.pinned (OpenSpec.ofChange wireCutSpec)

/-- ITS FALSE NEIGHBOUR: 'it returns false'. Refute it at one input. -/
def wireCutWrong : ChangeSpec := { name := "wireCut", fn := fun _ => fun
  | [d1, d2, d3, d4] => { results := [.lit (.bool false)], args := [d1, d2, d3, d4] }
  | _ => none }
def WireCutWrongFalsely : Prop := wireCutRow.holds Try.pinned (OpenSpec.ofChange wireCutWrong)

/-- 'espalierlaw05.WireReads': WHATEVER THE INPUT: true; the input reads as it did. -/
def wireReadsSpec : ChangeSpec := { name := "wireReads", fn := fun _ => fun
  | [d1, d2] => { results := [.lit (.bool true)], args := [d1, d2] }
  | _ => none }
def wireReadsRow : OpenClaim := { program := "ytijkmbebfodhdaa", sum := "0731f41cbd852585491a53959db27b087962dc0383ae044d078b378ffb2d54f9", func := "espalier/espalierlaw05.WireReads", spec := "wireReads", unfollowed := true, recurses := true, apart := false }
def WireReadsSaid : Prop := wireReadsRow.holds Try.pinned (OpenSpec.ofChange wireReadsSpec)

/-- ITS FALSE NEIGHBOUR: 'it returns false'. Refute it at one input. -/
def wireReadsWrong : ChangeSpec := { name := "wireReads", fn := fun _ => fun
  | [d1, d2] => { results := [.lit (.bool false)], args := [d1, d2] }
  | _ => none }
def WireReadsWrongFalsely : Prop := wireReadsRow.holds Try.pinned (OpenSpec.ofChange wireReadsWrong)

/-- 'espalierlaw05.WireBack': WHATEVER THE INPUT: true; the input reads as it did. -/
def wireBackSpec : ChangeSpec := { name := "wireBack", fn := fun _ => fun
  | [d1, d2, d3, d4, d5] => { results := [.lit (.bool true)], args := [d1, d2, d3, d4, d5] }
  | _ => none }
def wireBackRow : OpenClaim := { program := "ytijkmbebfodhdaa", sum := "0731f41cbd852585491a53959db27b087962dc0383ae044d078b378ffb2d54f9", func := "espalier/espalierlaw05.WireBack", spec := "wireBack", unfollowed := true, recurses := true, apart := false }
def WireBackSaid : Prop := wireBackRow.holds Try.pinned (OpenSpec.ofChange wireBackSpec)

/-- ITS FALSE NEIGHBOUR: 'it returns false'. Refute it at one input. -/
def wireBackWrong : ChangeSpec := { name := "wireBack", fn := fun _ => fun
  | [d1, d2, d3, d4, d5] => { results := [.lit (.bool false)], args := [d1, d2, d3, d4, d5] }
  | _ => none }
def WireBackWrongFalsely : Prop := wireBackRow.holds Try.pinned (OpenSpec.ofChange wireBackWrong)

/-- 'espalierlaw05.WireOnly': WHATEVER THE INPUT: true; the input reads as it did. -/
def wireOnlySpec : ChangeSpec := { name := "wireOnly", fn := fun _ => fun
  | [d] => { results := [.lit (.bool true)], args := [d] }
  | _ => none }
def wireOnlyRow : OpenClaim := { program := "ytijkmbebfodhdaa", sum := "0731f41cbd852585491a53959db27b087962dc0383ae044d078b378ffb2d54f9", func := "espalier/espalierlaw05.WireOnly", spec := "wireOnly", unfollowed := true, recurses := true, apart := false }
def WireOnlySaid : Prop := wireOnlyRow.holds Try.pinned (OpenSpec.ofChange wireOnlySpec)

/-- ITS FALSE NEIGHBOUR: 'it returns false'. Refute it at one input. -/
def wireOnlyWrong : ChangeSpec := { name := "wireOnly", fn := fun _ => fun
  | [d] => { results := [.lit (.bool false)], args := [d] }
  | _ => none }
def WireOnlyWrongFalsely : Prop := wireOnlyRow.holds Try.pinned (OpenSpec.ofChange wireOnlyWrong)

/-- 'espalierlaw14.LetterPuts': WHATEVER THE INPUT: true; the input reads as it did. -/
def letterPutsSpec : ChangeSpec := { name := "letterPuts", fn := fun _ => fun
  | [d] => { results := [.lit (.bool true)], args := [d] }
  | _ => none }
def letterPutsRow : OpenClaim := { program := "ytijkmbebfodhdaa", sum := "0731f41cbd852585491a53959db27b087962dc0383ae044d078b378ffb2d54f9", func := "espalier/espalierlaw14.LetterPuts", spec := "letterPuts", unfollowed := true, recurses := true, apart := false }
def LetterPutsSaid : Prop := letterPutsRow.holds Try.pinned (OpenSpec.ofChange letterPutsSpec)

/-- ITS FALSE NEIGHBOUR: 'it returns false'. Refute it at one input. -/
def letterPutsWrong : ChangeSpec := { name := "letterPuts", fn := fun _ => fun
  | [d] => { results := [.lit (.bool false)], args := [d] }
  | _ => none }
def LetterPutsWrongFalsely : Prop := letterPutsRow.holds Try.pinned (OpenSpec.ofChange letterPutsWrong)

/-- 'espalierlaw14.LetterGets': WHATEVER THE INPUT: true; the input reads as it did. -/
def letterGetsSpec : ChangeSpec := { name := "letterGets", fn := fun _ => fun
  | [d] => { results := [.lit (.bool true)], args := [d] }
  | _ => none }
def letterGetsRow : OpenClaim := { program := "ytijkmbebfodhdaa", sum := "0731f41cbd852585491a53959db27b087962dc0383ae044d078b378ffb2d54f9", func := "espalier/espalierlaw14.LetterGets", spec := "letterGets", unfollowed := true, recurses := true, apart := false }
def LetterGetsSaid : Prop := letterGetsRow.holds Try.pinned (OpenSpec.ofChange letterGetsSpec)

/-- ITS FALSE NEIGHBOUR: 'it returns false'. Refute it at one input. -/
def letterGetsWrong : ChangeSpec := { name := "letterGets", fn := fun _ => fun
  | [d] => { results := [.lit (.bool false)], args := [d] }
  | _ => none }
def LetterGetsWrongFalsely : Prop := letterGetsRow.holds Try.pinned (OpenSpec.ofChange letterGetsWrong)

/-- 'espalierlaw14.LetterBack': WHATEVER THE INPUT: true; the input reads as it did. -/
def letterBackSpec : ChangeSpec := { name := "letterBack", fn := fun _ => fun
  | [d1, d2] => { results := [.lit (.bool true)], args := [d1, d2] }
  | _ => none }
def letterBackRow : OpenClaim := { program := "ytijkmbebfodhdaa", sum := "0731f41cbd852585491a53959db27b087962dc0383ae044d078b378ffb2d54f9", func := "espalier/espalierlaw14.LetterBack", spec := "letterBack", unfollowed := true, recurses := true, apart := false }
def LetterBackSaid : Prop := letterBackRow.holds Try.pinned (OpenSpec.ofChange letterBackSpec)

/-- ITS FALSE NEIGHBOUR: 'it returns false'. Refute it at one input. -/
def letterBackWrong : ChangeSpec := { name := "letterBack", fn := fun _ => fun
  | [d1, d2] => { results := [.lit (.bool false)], args := [d1, d2] }
  | _ => none }
def LetterBackWrongFalsely : Prop := letterBackRow.holds Try.pinned (OpenSpec.ofChange letterBackWrong)

/-- 'espalierlaw14.LetterCut': WHATEVER THE INPUT: true; the input reads as it did. -/
def letterCutSpec : ChangeSpec := { name := "letterCut", fn := fun _ => fun
  | [d1, d2, d3] => { results := [.lit (.bool true)], args := [d1, d2, d3] }
  | _ => none }
def letterCutRow : OpenClaim := { program := "ytijkmbebfodhdaa", sum := "0731f41cbd852585491a53959db27b087962dc0383ae044d078b378ffb2d54f9", func := "espalier/espalierlaw14.LetterCut", spec := "letterCut", unfollowed := true, recurses := true, apart := false }
def LetterCutSaid : Prop := letterCutRow.holds Try.pinned (OpenSpec.ofChange letterCutSpec)

/-- ITS FALSE NEIGHBOUR: 'it returns false'. Refute it at one input. -/
def letterCutWrong : ChangeSpec := { name := "letterCut", fn := fun _ => fun
  | [d1, d2, d3] => { results := [.lit (.bool false)], args := [d1, d2, d3] }
  | _ => none }
def LetterCutWrongFalsely : Prop := letterCutRow.holds Try.pinned (OpenSpec.ofChange letterCutWrong)

/-- 'espalierlaw14.LetterApart': WHATEVER THE INPUT: true; the input reads as it did. -/
def letterApartSpec : ChangeSpec := { name := "letterApart", fn := fun _ => fun
  | [d1, d2] => { results := [.lit (.bool true)], args := [d1, d2] }
  | _ => none }
def letterApartRow : OpenClaim := { program := "ytijkmbebfodhdaa", sum := "0731f41cbd852585491a53959db27b087962dc0383ae044d078b378ffb2d54f9", func := "espalier/espalierlaw14.LetterApart", spec := "letterApart", unfollowed := true, recurses := true, apart := false }
def LetterApartSaid : Prop := letterApartRow.holds Try.pinned (OpenSpec.ofChange letterApartSpec)

/-- ITS FALSE NEIGHBOUR: 'it returns false'. Refute it at one input. -/
def letterApartWrong : ChangeSpec := { name := "letterApart", fn := fun _ => fun
  | [d1, d2] => { results := [.lit (.bool false)], args := [d1, d2] }
  | _ => none }
def LetterApartWrongFalsely : Prop := letterApartRow.holds Try.pinned (OpenSpec.ofChange letterApartWrong)

/- THE SECOND FORM. 'bulk': how many values and letters a reading holds, each counted each time it is reached (what is shared counts as often as it is met; a slice's spare places count too). A statement '..UptoSaid' is the law's where the arguments, and the package variables that the reading takes, are together of bulk at most 1048576: NARROWER than '..Said'. Prove '..Said' where nothing that the law and all that it calls make is longer than what came in: it says more and counts as full. Else prove '..UptoSaid'. A law counts once. -/
mutual
def uptoBulk {H : Type} : DataW H → Nat
  | .lit (.string bytes) => bytes.length + 1
  | .lit _ => 1
  | .nil => 1
  | .ptr d => uptoBulk d + 1
  | .slice elems spare => uptoBulkAll elems + uptoBulkAll spare + 1
  | .agg parts => uptoBulkAll parts + 1
  | .iface _ d => uptoBulk d + 1
  | .map entries => uptoBulkEntries entries + 1
  | .held _ => 1
def uptoBulkAll {H : Type} : List (DataW H) → Nat
  | [] => 0
  | d :: r => uptoBulk d + uptoBulkAll r
def uptoBulkEntries {H : Type} : List (Lit × DataW H) → Nat
  | [] => 0
  | x :: r => uptoBulkEntry x + uptoBulkEntries r
def uptoBulkEntry {H : Type} : Lit × DataW H → Nat
  | (.string bytes, d) => bytes.length + uptoBulk d + 1
  | (_, d) => uptoBulk d + 1
 end
def uptoSmall : (H : Type) → List (DataW H) → Bool := fun _ ds => decide (uptoBulkAll ds ≤ 1048576)
def OpenSpec.upto (s : _root_.Go.ChangeSpec) : _root_.Go.OpenSpec := { _root_.Go.OpenSpec.ofChange s with cond := some uptoSmall }

/-- 'espalierlaw05.WirePuts', WHERE WHAT IT READS IS OF BULK AT MOST 1048576: true; the input reads as it did. -/
def wirePutsUptoRow : OpenClaim := { program := "ytijkmbebfodhdaa", sum := "0731f41cbd852585491a53959db27b087962dc0383ae044d078b378ffb2d54f9", func := "espalier/espalierlaw05.WirePuts", spec := "wirePuts", unfollowed := true, recurses := true, apart := false, narrowed := true }
def WirePutsUptoSaid : Prop := wirePutsUptoRow.holds Try.pinned (OpenSpec.upto wirePutsSpec)

/-- 'espalierlaw05.WireCut', WHERE WHAT IT READS IS OF BULK AT MOST 1048576: true; the input reads as it did. -/
def wireCutUptoRow : OpenClaim := { program := "ytijkmbebfodhdaa", sum := "0731f41cbd852585491a53959db27b087962dc0383ae044d078b378ffb2d54f9", func := "espalier/espalierlaw05.WireCut", spec := "wireCut", unfollowed := true, recurses := true, apart := false, narrowed := true }
def WireCutUptoSaid : Prop := wireCutUptoRow.holds Try.pinned (OpenSpec.upto wireCutSpec)

/-- 'espalierlaw05.WireReads', WHERE WHAT IT READS IS OF BULK AT MOST 1048576: true; the input reads as it did. -/
def wireReadsUptoRow : OpenClaim := { program := "ytijkmbebfodhdaa", sum := "0731f41cbd852585491a53959db27b087962dc0383ae044d078b378ffb2d54f9", func := "espalier/espalierlaw05.WireReads", spec := "wireReads", unfollowed := true, recurses := true, apart := false, narrowed := true }
def WireReadsUptoSaid : Prop := wireReadsUptoRow.holds Try.pinned (OpenSpec.upto wireReadsSpec)

/-- 'espalierlaw05.WireBack', WHERE WHAT IT READS IS OF BULK AT MOST 1048576: true; the input reads as it did. -/
def wireBackUptoRow : OpenClaim := { program := "ytijkmbebfodhdaa", sum := "0731f41cbd852585491a53959db27b087962dc0383ae044d078b378ffb2d54f9", func := "espalier/espalierlaw05.WireBack", spec := "wireBack", unfollowed := true, recurses := true, apart := false, narrowed := true }
def WireBackUptoSaid : Prop := wireBackUptoRow.holds Try.pinned (OpenSpec.upto wireBackSpec)

/-- 'espalierlaw05.WireOnly', WHERE WHAT IT READS IS OF BULK AT MOST 1048576: true; the input reads as it did. -/
def wireOnlyUptoRow : OpenClaim := { program := "ytijkmbebfodhdaa", sum := "0731f41cbd852585491a53959db27b087962dc0383ae044d078b378ffb2d54f9", func := "espalier/espalierlaw05.WireOnly", spec := "wireOnly", unfollowed := true, recurses := true, apart := false, narrowed := true }
def WireOnlyUptoSaid : Prop := wireOnlyUptoRow.holds Try.pinned (OpenSpec.upto wireOnlySpec)

/-- 'espalierlaw14.LetterPuts', WHERE WHAT IT READS IS OF BULK AT MOST 1048576: true; the input reads as it did. -/
def letterPutsUptoRow : OpenClaim := { program := "ytijkmbebfodhdaa", sum := "0731f41cbd852585491a53959db27b087962dc0383ae044d078b378ffb2d54f9", func := "espalier/espalierlaw14.LetterPuts", spec := "letterPuts", unfollowed := true, recurses := true, apart := false, narrowed := true }
def LetterPutsUptoSaid : Prop := letterPutsUptoRow.holds Try.pinned (OpenSpec.upto letterPutsSpec)

/-- 'espalierlaw14.LetterGets', WHERE WHAT IT READS IS OF BULK AT MOST 1048576: true; the input reads as it did. -/
def letterGetsUptoRow : OpenClaim := { program := "ytijkmbebfodhdaa", sum := "0731f41cbd852585491a53959db27b087962dc0383ae044d078b378ffb2d54f9", func := "espalier/espalierlaw14.LetterGets", spec := "letterGets", unfollowed := true, recurses := true, apart := false, narrowed := true }
def LetterGetsUptoSaid : Prop := letterGetsUptoRow.holds Try.pinned (OpenSpec.upto letterGetsSpec)

/-- 'espalierlaw14.LetterBack', WHERE WHAT IT READS IS OF BULK AT MOST 1048576: true; the input reads as it did. -/
def letterBackUptoRow : OpenClaim := { program := "ytijkmbebfodhdaa", sum := "0731f41cbd852585491a53959db27b087962dc0383ae044d078b378ffb2d54f9", func := "espalier/espalierlaw14.LetterBack", spec := "letterBack", unfollowed := true, recurses := true, apart := false, narrowed := true }
def LetterBackUptoSaid : Prop := letterBackUptoRow.holds Try.pinned (OpenSpec.upto letterBackSpec)

/-- 'espalierlaw14.LetterCut', WHERE WHAT IT READS IS OF BULK AT MOST 1048576: true; the input reads as it did. -/
def letterCutUptoRow : OpenClaim := { program := "ytijkmbebfodhdaa", sum := "0731f41cbd852585491a53959db27b087962dc0383ae044d078b378ffb2d54f9", func := "espalier/espalierlaw14.LetterCut", spec := "letterCut", unfollowed := true, recurses := true, apart := false, narrowed := true }
def LetterCutUptoSaid : Prop := letterCutUptoRow.holds Try.pinned (OpenSpec.upto letterCutSpec)

/-- 'espalierlaw14.LetterApart', WHERE WHAT IT READS IS OF BULK AT MOST 1048576: true; the input reads as it did. -/
def letterApartUptoRow : OpenClaim := { program := "ytijkmbebfodhdaa", sum := "0731f41cbd852585491a53959db27b087962dc0383ae044d078b378ffb2d54f9", func := "espalier/espalierlaw14.LetterApart", spec := "letterApart", unfollowed := true, recurses := true, apart := false, narrowed := true }
def LetterApartUptoSaid : Prop := letterApartUptoRow.holds Try.pinned (OpenSpec.upto letterApartSpec)

end Rows
end Go.Proofs.Ytijkmbebfodhdaa
