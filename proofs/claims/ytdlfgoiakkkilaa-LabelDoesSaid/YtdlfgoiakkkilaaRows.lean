/-
  No cell of these rows narrows 'for every input' (looked for: loops, veiled, ifaces, maps, wideKeys, modest, calm, conditions, laid).
  DERIVED. THE GIVEN ROWS OF THIS SEAT. 11 by the template 'for every input the law returns true; each argument reads behind the call as it read before'; 0 by the template 'total and deterministic' (their statements: YtdlfgoiakkkilaaTotals.lean).
  GIVEN WITH THE SEED: the statements are not yours to turn. If you find one false, say at which input.
  Laid BY PROGRAM, IN A SANDBOX (cutbox-rows.mjs): the forced cells as the released guide's own fill.sh prints them over the translation 77d3b7c819a0053d… (all of the seat's roots in one cut). By AI agents, Wed Nov 11 2026. No macro, syntax, notation, axiom, sorry.
-/
import Derived.Test.YtdlfgoiakkkilaaChecked
import GoSem.Claim
import GoSem.ClaimJoined
import GoSem.ClaimMapViews
import Derived.JoinedTies
import Derived.KernelRfl
namespace Go.Proofs.Ytdlfgoiakkkilaa
/- THE CELL 'sum', in the pinned program and in every row, IS THE sha256 OF THE DUMP (.gsa) THAT YtdlfgoiakkkilaaProg.lean LOADS. Nothing in Lean hashes anything: it is a label: what it is worth is what the hold of that sum in a sandbox is worth. -/
noncomputable def Try.pinned : Pinned := { name := "ytdlfgoiakkkilaa", sum := "77d3b7c819a0053d3ac1e9b9b3b339e5e7b42f43d04b9b2660eb057a08c8fd6b", checked := Try.checked }
namespace Rows
def none {H : Type} : Left H := { results := [], args := [] }

/-- 'espalierlaw03.LabelBack': WHATEVER THE INPUT: true; the input reads as it did. -/
def labelBackSpec : ChangeSpec := { name := "labelBack", fn := fun _ => fun
  | [d1, d2] => { results := [.lit (.bool true)], args := [d1, d2] }
  | _ => none }
def labelBackRow : OpenClaim := { program := "ytdlfgoiakkkilaa", sum := "77d3b7c819a0053d3ac1e9b9b3b339e5e7b42f43d04b9b2660eb057a08c8fd6b", func := "espalier/espalierlaw03.LabelBack", spec := "labelBack", inPlace := ["internal/abi.NoEscape", "internal/bytealg.MakeNoZero"], unfollowed := true, recurses := true, apart := false }
def LabelBackSaid : Prop := labelBackRow.holds Try.pinned (OpenSpec.ofChange labelBackSpec)

/-- ITS FALSE NEIGHBOUR: 'it returns false'. Refute it at one input. -/
def labelBackWrong : ChangeSpec := { name := "labelBack", fn := fun _ => fun
  | [d1, d2] => { results := [.lit (.bool false)], args := [d1, d2] }
  | _ => none }
def LabelBackWrongFalsely : Prop := labelBackRow.holds Try.pinned (OpenSpec.ofChange labelBackWrong)

/-- 'espalierlaw03.LabelDoes': WHATEVER THE INPUT: true; the input reads as it did. -/
def labelDoesSpec : ChangeSpec := { name := "labelDoes", fn := fun _ => fun
  | [d1, d2] => { results := [.lit (.bool true)], args := [d1, d2] }
  | _ => none }
def labelDoesRow : OpenClaim := { program := "ytdlfgoiakkkilaa", sum := "77d3b7c819a0053d3ac1e9b9b3b339e5e7b42f43d04b9b2660eb057a08c8fd6b", func := "espalier/espalierlaw03.LabelDoes", spec := "labelDoes", inPlace := ["internal/abi.NoEscape", "internal/bytealg.MakeNoZero"], unfollowed := true, recurses := true, apart := false }
def LabelDoesSaid : Prop := labelDoesRow.holds Try.pinned (OpenSpec.ofChange labelDoesSpec)

/-- ITS FALSE NEIGHBOUR: 'it returns false'. Refute it at one input. -/
def labelDoesWrong : ChangeSpec := { name := "labelDoes", fn := fun _ => fun
  | [d1, d2] => { results := [.lit (.bool false)], args := [d1, d2] }
  | _ => none }
def LabelDoesWrongFalsely : Prop := labelDoesRow.holds Try.pinned (OpenSpec.ofChange labelDoesWrong)

/-- 'espalierlaw03.LabelMeets': WHATEVER THE INPUT: true; the input reads as it did. -/
def labelMeetsSpec : ChangeSpec := { name := "labelMeets", fn := fun _ => fun
  | [d1, d2, d3] => { results := [.lit (.bool true)], args := [d1, d2, d3] }
  | _ => none }
def labelMeetsRow : OpenClaim := { program := "ytdlfgoiakkkilaa", sum := "77d3b7c819a0053d3ac1e9b9b3b339e5e7b42f43d04b9b2660eb057a08c8fd6b", func := "espalier/espalierlaw03.LabelMeets", spec := "labelMeets", inPlace := ["internal/abi.NoEscape"], unfollowed := true, recurses := true, apart := false }
def LabelMeetsSaid : Prop := labelMeetsRow.holds Try.pinned (OpenSpec.ofChange labelMeetsSpec)

/-- ITS FALSE NEIGHBOUR: 'it returns false'. Refute it at one input. -/
def labelMeetsWrong : ChangeSpec := { name := "labelMeets", fn := fun _ => fun
  | [d1, d2, d3] => { results := [.lit (.bool false)], args := [d1, d2, d3] }
  | _ => none }
def LabelMeetsWrongFalsely : Prop := labelMeetsRow.holds Try.pinned (OpenSpec.ofChange labelMeetsWrong)

/-- 'espalierlaw03.LabelTells': WHATEVER THE INPUT: true; the input reads as it did. -/
def labelTellsSpec : ChangeSpec := { name := "labelTells", fn := fun _ => fun
  | [d1, d2, d3, d4, d5] => { results := [.lit (.bool true)], args := [d1, d2, d3, d4, d5] }
  | _ => none }
def labelTellsRow : OpenClaim := { program := "ytdlfgoiakkkilaa", sum := "77d3b7c819a0053d3ac1e9b9b3b339e5e7b42f43d04b9b2660eb057a08c8fd6b", func := "espalier/espalierlaw03.LabelTells", spec := "labelTells", inPlace := ["internal/abi.NoEscape"], unfollowed := true, recurses := true, apart := false }
def LabelTellsSaid : Prop := labelTellsRow.holds Try.pinned (OpenSpec.ofChange labelTellsSpec)

/-- ITS FALSE NEIGHBOUR: 'it returns false'. Refute it at one input. -/
def labelTellsWrong : ChangeSpec := { name := "labelTells", fn := fun _ => fun
  | [d1, d2, d3, d4, d5] => { results := [.lit (.bool false)], args := [d1, d2, d3, d4, d5] }
  | _ => none }
def LabelTellsWrongFalsely : Prop := labelTellsRow.holds Try.pinned (OpenSpec.ofChange labelTellsWrong)

/-- 'espalierlaw03.LabelSide': WHATEVER THE INPUT: true; the input reads as it did. -/
def labelSideSpec : ChangeSpec := { name := "labelSide", fn := fun _ => fun
  | [d1, d2] => { results := [.lit (.bool true)], args := [d1, d2] }
  | _ => none }
def labelSideRow : OpenClaim := { program := "ytdlfgoiakkkilaa", sum := "77d3b7c819a0053d3ac1e9b9b3b339e5e7b42f43d04b9b2660eb057a08c8fd6b", func := "espalier/espalierlaw03.LabelSide", spec := "labelSide", inPlace := ["internal/abi.NoEscape"], unfollowed := true, recurses := true, apart := false }
def LabelSideSaid : Prop := labelSideRow.holds Try.pinned (OpenSpec.ofChange labelSideSpec)

/-- ITS FALSE NEIGHBOUR: 'it returns false'. Refute it at one input. -/
def labelSideWrong : ChangeSpec := { name := "labelSide", fn := fun _ => fun
  | [d1, d2] => { results := [.lit (.bool false)], args := [d1, d2] }
  | _ => none }
def LabelSideWrongFalsely : Prop := labelSideRow.holds Try.pinned (OpenSpec.ofChange labelSideWrong)

/-- 'espalierlaw03.LabelHalves': WHATEVER THE INPUT: true; the input reads as it did. -/
def labelHalvesSpec : ChangeSpec := { name := "labelHalves", fn := fun _ => fun
  | [d1, d2] => { results := [.lit (.bool true)], args := [d1, d2] }
  | _ => none }
def labelHalvesRow : OpenClaim := { program := "ytdlfgoiakkkilaa", sum := "77d3b7c819a0053d3ac1e9b9b3b339e5e7b42f43d04b9b2660eb057a08c8fd6b", func := "espalier/espalierlaw03.LabelHalves", spec := "labelHalves", inPlace := ["internal/abi.NoEscape"], unfollowed := true, recurses := true, apart := false }
def LabelHalvesSaid : Prop := labelHalvesRow.holds Try.pinned (OpenSpec.ofChange labelHalvesSpec)

/-- ITS FALSE NEIGHBOUR: 'it returns false'. Refute it at one input. -/
def labelHalvesWrong : ChangeSpec := { name := "labelHalves", fn := fun _ => fun
  | [d1, d2] => { results := [.lit (.bool false)], args := [d1, d2] }
  | _ => none }
def LabelHalvesWrongFalsely : Prop := labelHalvesRow.holds Try.pinned (OpenSpec.ofChange labelHalvesWrong)

/-- 'espalierlaw02.ShaDoes': WHATEVER THE INPUT: true; the input reads as it did. -/
def shaDoesSpec : ChangeSpec := { name := "shaDoes", fn := fun _ => fun
  | [d1, d2] => { results := [.lit (.bool true)], args := [d1, d2] }
  | _ => none }
def shaDoesRow : OpenClaim := { program := "ytdlfgoiakkkilaa", sum := "77d3b7c819a0053d3ac1e9b9b3b339e5e7b42f43d04b9b2660eb057a08c8fd6b", func := "espalier/espalierlaw02.ShaDoes", spec := "shaDoes", inPlace := ["internal/abi.NoEscape", "internal/bytealg.MakeNoZero"], unfollowed := true, recurses := true, apart := false }
def ShaDoesSaid : Prop := shaDoesRow.holds Try.pinned (OpenSpec.ofChange shaDoesSpec)

/-- ITS FALSE NEIGHBOUR: 'it returns false'. Refute it at one input. -/
def shaDoesWrong : ChangeSpec := { name := "shaDoes", fn := fun _ => fun
  | [d1, d2] => { results := [.lit (.bool false)], args := [d1, d2] }
  | _ => none }
def ShaDoesWrongFalsely : Prop := shaDoesRow.holds Try.pinned (OpenSpec.ofChange shaDoesWrong)

/-- 'espalierlaw02.ShaPads': WHATEVER THE INPUT: true; the input reads as it did. -/
def shaPadsSpec : ChangeSpec := { name := "shaPads", fn := fun _ => fun
  | [d] => { results := [.lit (.bool true)], args := [d] }
  | _ => none }
def shaPadsRow : OpenClaim := { program := "ytdlfgoiakkkilaa", sum := "77d3b7c819a0053d3ac1e9b9b3b339e5e7b42f43d04b9b2660eb057a08c8fd6b", func := "espalier/espalierlaw02.ShaPads", spec := "shaPads", inPlace := ["internal/abi.NoEscape", "internal/bytealg.MakeNoZero"], unfollowed := true, recurses := true, apart := false }
def ShaPadsSaid : Prop := shaPadsRow.holds Try.pinned (OpenSpec.ofChange shaPadsSpec)

/-- ITS FALSE NEIGHBOUR: 'it returns false'. Refute it at one input. -/
def shaPadsWrong : ChangeSpec := { name := "shaPads", fn := fun _ => fun
  | [d] => { results := [.lit (.bool false)], args := [d] }
  | _ => none }
def ShaPadsWrongFalsely : Prop := shaPadsRow.holds Try.pinned (OpenSpec.ofChange shaPadsWrong)

/-- 'espalierlaw02.ShaParts': WHATEVER THE INPUT: true; the input reads as it did. -/
def shaPartsSpec : ChangeSpec := { name := "shaParts", fn := fun _ => fun
  | [d] => { results := [.lit (.bool true)], args := [d] }
  | _ => none }
def shaPartsRow : OpenClaim := { program := "ytdlfgoiakkkilaa", sum := "77d3b7c819a0053d3ac1e9b9b3b339e5e7b42f43d04b9b2660eb057a08c8fd6b", func := "espalier/espalierlaw02.ShaParts", spec := "shaParts", inPlace := ["internal/abi.NoEscape", "internal/bytealg.MakeNoZero"], unfollowed := true, recurses := true, apart := false }
def ShaPartsSaid : Prop := shaPartsRow.holds Try.pinned (OpenSpec.ofChange shaPartsSpec)

/-- ITS FALSE NEIGHBOUR: 'it returns false'. Refute it at one input. -/
def shaPartsWrong : ChangeSpec := { name := "shaParts", fn := fun _ => fun
  | [d] => { results := [.lit (.bool false)], args := [d] }
  | _ => none }
def ShaPartsWrongFalsely : Prop := shaPartsRow.holds Try.pinned (OpenSpec.ofChange shaPartsWrong)

/-- 'espalierlaw02.ShaWords': WHATEVER THE INPUT: true; the input reads as it did. -/
def shaWordsSpec : ChangeSpec := { name := "shaWords", fn := fun _ => fun
  | [d] => { results := [.lit (.bool true)], args := [d] }
  | _ => none }
def shaWordsRow : OpenClaim := { program := "ytdlfgoiakkkilaa", sum := "77d3b7c819a0053d3ac1e9b9b3b339e5e7b42f43d04b9b2660eb057a08c8fd6b", func := "espalier/espalierlaw02.ShaWords", spec := "shaWords", inPlace := ["internal/abi.NoEscape", "internal/bytealg.MakeNoZero"], unfollowed := true, recurses := true, apart := false }
def ShaWordsSaid : Prop := shaWordsRow.holds Try.pinned (OpenSpec.ofChange shaWordsSpec)

/-- ITS FALSE NEIGHBOUR: 'it returns false'. Refute it at one input. -/
def shaWordsWrong : ChangeSpec := { name := "shaWords", fn := fun _ => fun
  | [d] => { results := [.lit (.bool false)], args := [d] }
  | _ => none }
def ShaWordsWrongFalsely : Prop := shaWordsRow.holds Try.pinned (OpenSpec.ofChange shaWordsWrong)

/-- 'espalierlaw02.ShaApart': WHATEVER THE INPUT: true; the input reads as it did. -/
def shaApartSpec : ChangeSpec := { name := "shaApart", fn := fun _ => fun
  | [d1, d2] => { results := [.lit (.bool true)], args := [d1, d2] }
  | _ => none }
def shaApartRow : OpenClaim := { program := "ytdlfgoiakkkilaa", sum := "77d3b7c819a0053d3ac1e9b9b3b339e5e7b42f43d04b9b2660eb057a08c8fd6b", func := "espalier/espalierlaw02.ShaApart", spec := "shaApart", inPlace := ["internal/abi.NoEscape", "internal/bytealg.MakeNoZero"], unfollowed := true, recurses := true, apart := false }
def ShaApartSaid : Prop := shaApartRow.holds Try.pinned (OpenSpec.ofChange shaApartSpec)

/-- ITS FALSE NEIGHBOUR: 'it returns false'. Refute it at one input. -/
def shaApartWrong : ChangeSpec := { name := "shaApart", fn := fun _ => fun
  | [d1, d2] => { results := [.lit (.bool false)], args := [d1, d2] }
  | _ => none }
def ShaApartWrongFalsely : Prop := shaApartRow.holds Try.pinned (OpenSpec.ofChange shaApartWrong)

/- THE SECOND FORM. 'bulk': how many values and letters a reading holds, each counted each time it is reached (what is shared counts as often as it is met; a slice's spare places count too). A statement '..UptoSaid' is the law's where the arguments, and the package variables that the reading takes, are together of bulk at most 1048576: NARROWER than '..Said'. Prove '..Said' where nothing that the law and all that it calls make is longer than what came in: it says more and counts as full. Else prove '..UptoSaid'. A law counts once. -/
mutual
def uptoBulk {H : Type} : DataW H → Nat
  | .lit (.string bytes) => bytes.length + 1
  | .lit _ => 1
  | .nil => 1
  | .ptr d => uptoBulk d + 1
  | .slice elems spare => uptoBulkAll elems + uptoBulkAll spare + 1
  | .agg parts => uptoBulkAll parts + 1
  | .iface _ d => uptoBulk d + 1
  | .map entries => uptoBulkEntries entries + 1
  | .held _ => 1
def uptoBulkAll {H : Type} : List (DataW H) → Nat
  | [] => 0
  | d :: r => uptoBulk d + uptoBulkAll r
def uptoBulkEntries {H : Type} : List (Lit × DataW H) → Nat
  | [] => 0
  | x :: r => uptoBulkEntry x + uptoBulkEntries r
def uptoBulkEntry {H : Type} : Lit × DataW H → Nat
  | (.string bytes, d) => bytes.length + uptoBulk d + 1
  | (_, d) => uptoBulk d + 1
 end
def uptoSmall : (H : Type) → List (DataW H) → Bool := fun _ ds => decide (uptoBulkAll ds ≤ 1048576)
def OpenSpec.upto (s : _root_.Go.ChangeSpec) : _root_.Go.OpenSpec := { _root_.Go.OpenSpec.ofChange s with cond := some uptoSmall }

/-- 'espalierlaw03.LabelBack', WHERE WHAT IT READS IS OF BULK AT MOST 1048576: true; the input reads as it did. -/
def labelBackUptoRow : OpenClaim := { program := "ytdlfgoiakkkilaa", sum := "77d3b7c819a0053d3ac1e9b9b3b339e5e7b42f43d04b9b2660eb057a08c8fd6b", func := "espalier/espalierlaw03.LabelBack", spec := "labelBack", inPlace := ["internal/abi.NoEscape", "internal/bytealg.MakeNoZero"], unfollowed := true, recurses := true, apart := false, narrowed := true }
def LabelBackUptoSaid : Prop := labelBackUptoRow.holds Try.pinned (OpenSpec.upto labelBackSpec)

/-- 'espalierlaw03.LabelDoes', WHERE WHAT IT READS IS OF BULK AT MOST 1048576: true; the input reads as it did. -/
def labelDoesUptoRow : OpenClaim := { program := "ytdlfgoiakkkilaa", sum := "77d3b7c819a0053d3ac1e9b9b3b339e5e7b42f43d04b9b2660eb057a08c8fd6b", func := "espalier/espalierlaw03.LabelDoes", spec := "labelDoes", inPlace := ["internal/abi.NoEscape", "internal/bytealg.MakeNoZero"], unfollowed := true, recurses := true, apart := false, narrowed := true }
def LabelDoesUptoSaid : Prop := labelDoesUptoRow.holds Try.pinned (OpenSpec.upto labelDoesSpec)

/-- 'espalierlaw03.LabelMeets', WHERE WHAT IT READS IS OF BULK AT MOST 1048576: true; the input reads as it did. -/
def labelMeetsUptoRow : OpenClaim := { program := "ytdlfgoiakkkilaa", sum := "77d3b7c819a0053d3ac1e9b9b3b339e5e7b42f43d04b9b2660eb057a08c8fd6b", func := "espalier/espalierlaw03.LabelMeets", spec := "labelMeets", inPlace := ["internal/abi.NoEscape"], unfollowed := true, recurses := true, apart := false, narrowed := true }
def LabelMeetsUptoSaid : Prop := labelMeetsUptoRow.holds Try.pinned (OpenSpec.upto labelMeetsSpec)

/-- 'espalierlaw03.LabelTells', WHERE WHAT IT READS IS OF BULK AT MOST 1048576: true; the input reads as it did. -/
def labelTellsUptoRow : OpenClaim := { program := "ytdlfgoiakkkilaa", sum := "77d3b7c819a0053d3ac1e9b9b3b339e5e7b42f43d04b9b2660eb057a08c8fd6b", func := "espalier/espalierlaw03.LabelTells", spec := "labelTells", inPlace := ["internal/abi.NoEscape"], unfollowed := true, recurses := true, apart := false, narrowed := true }
def LabelTellsUptoSaid : Prop := labelTellsUptoRow.holds Try.pinned (OpenSpec.upto labelTellsSpec)

/-- 'espalierlaw03.LabelSide', WHERE WHAT IT READS IS OF BULK AT MOST 1048576: true; the input reads as it did. -/
def labelSideUptoRow : OpenClaim := { program := "ytdlfgoiakkkilaa", sum := "77d3b7c819a0053d3ac1e9b9b3b339e5e7b42f43d04b9b2660eb057a08c8fd6b", func := "espalier/espalierlaw03.LabelSide", spec := "labelSide", inPlace := ["internal/abi.NoEscape"], unfollowed := true, recurses := true, apart := false, narrowed := true }
def LabelSideUptoSaid : Prop := labelSideUptoRow.holds Try.pinned (OpenSpec.upto labelSideSpec)

/-- 'espalierlaw03.LabelHalves', WHERE WHAT IT READS IS OF BULK AT MOST 1048576: true; the input reads as it did. -/
def labelHalvesUptoRow : OpenClaim := { program := "ytdlfgoiakkkilaa", sum := "77d3b7c819a0053d3ac1e9b9b3b339e5e7b42f43d04b9b2660eb057a08c8fd6b", func := "espalier/espalierlaw03.LabelHalves", spec := "labelHalves", inPlace := ["internal/abi.NoEscape"], unfollowed := true, recurses := true, apart := false, narrowed := true }
def LabelHalvesUptoSaid : Prop := labelHalvesUptoRow.holds Try.pinned (OpenSpec.upto labelHalvesSpec)

/-- 'espalierlaw02.ShaDoes', WHERE WHAT IT READS IS OF BULK AT MOST 1048576: true; the input reads as it did. -/
def shaDoesUptoRow : OpenClaim := { program := "ytdlfgoiakkkilaa", sum := "77d3b7c819a0053d3ac1e9b9b3b339e5e7b42f43d04b9b2660eb057a08c8fd6b", func := "espalier/espalierlaw02.ShaDoes", spec := "shaDoes", inPlace := ["internal/abi.NoEscape", "internal/bytealg.MakeNoZero"], unfollowed := true, recurses := true, apart := false, narrowed := true }
def ShaDoesUptoSaid : Prop := shaDoesUptoRow.holds Try.pinned (OpenSpec.upto shaDoesSpec)

/-- 'espalierlaw02.ShaPads', WHERE WHAT IT READS IS OF BULK AT MOST 1048576: true; the input reads as it did. -/
def shaPadsUptoRow : OpenClaim := { program := "ytdlfgoiakkkilaa", sum := "77d3b7c819a0053d3ac1e9b9b3b339e5e7b42f43d04b9b2660eb057a08c8fd6b", func := "espalier/espalierlaw02.ShaPads", spec := "shaPads", inPlace := ["internal/abi.NoEscape", "internal/bytealg.MakeNoZero"], unfollowed := true, recurses := true, apart := false, narrowed := true }
def ShaPadsUptoSaid : Prop := shaPadsUptoRow.holds Try.pinned (OpenSpec.upto shaPadsSpec)

/-- 'espalierlaw02.ShaParts', WHERE WHAT IT READS IS OF BULK AT MOST 1048576: true; the input reads as it did. -/
def shaPartsUptoRow : OpenClaim := { program := "ytdlfgoiakkkilaa", sum := "77d3b7c819a0053d3ac1e9b9b3b339e5e7b42f43d04b9b2660eb057a08c8fd6b", func := "espalier/espalierlaw02.ShaParts", spec := "shaParts", inPlace := ["internal/abi.NoEscape", "internal/bytealg.MakeNoZero"], unfollowed := true, recurses := true, apart := false, narrowed := true }
def ShaPartsUptoSaid : Prop := shaPartsUptoRow.holds Try.pinned (OpenSpec.upto shaPartsSpec)

/-- 'espalierlaw02.ShaWords', WHERE WHAT IT READS IS OF BULK AT MOST 1048576: true; the input reads as it did. -/
def shaWordsUptoRow : OpenClaim := { program := "ytdlfgoiakkkilaa", sum := "77d3b7c819a0053d3ac1e9b9b3b339e5e7b42f43d04b9b2660eb057a08c8fd6b", func := "espalier/espalierlaw02.ShaWords", spec := "shaWords", inPlace := ["internal/abi.NoEscape", "internal/bytealg.MakeNoZero"], unfollowed := true, recurses := true, apart := false, narrowed := true }
def ShaWordsUptoSaid : Prop := shaWordsUptoRow.holds Try.pinned (OpenSpec.upto shaWordsSpec)

/-- 'espalierlaw02.ShaApart', WHERE WHAT IT READS IS OF BULK AT MOST 1048576: true; the input reads as it did. -/
def shaApartUptoRow : OpenClaim := { program := "ytdlfgoiakkkilaa", sum := "77d3b7c819a0053d3ac1e9b9b3b339e5e7b42f43d04b9b2660eb057a08c8fd6b", func := "espalier/espalierlaw02.ShaApart", spec := "shaApart", inPlace := ["internal/abi.NoEscape", "internal/bytealg.MakeNoZero"], unfollowed := true, recurses := true, apart := false, narrowed := true }
def ShaApartUptoSaid : Prop := shaApartUptoRow.holds Try.pinned (OpenSpec.upto shaApartSpec)

end Rows
end Go.Proofs.Ytdlfgoiakkkilaa
