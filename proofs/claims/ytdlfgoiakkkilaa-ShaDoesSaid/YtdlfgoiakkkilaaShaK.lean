/-
  Sums: two texts' sums, by reckoning.
-/
import Derived.Test.YtdlfgoiakkkilaaShaC
namespace Go.Proofs.Ytdlfgoiakkkilaa
open Go.RowKit
set_option linter.unusedSimpArgs false
set_option linter.unusedVariables false
set_option maxRecDepth 100000
set_option maxHeartbeats 1000000

theorem sum_abc : sumS { data := #[97, 98, 99] } = 968236873715988614170569073515315707566766479517 := by decide +kernel
theorem sum_nil : sumS { data := #[] } = 1245845410931227995499360226027473197403882391305 := by decide +kernel
theorem text_abc : textB 968236873715988614170569073515315707566766479517 = { data := #[97, 57, 57, 57, 51, 101, 51, 54, 52, 55, 48, 54, 56, 49, 54, 97, 98, 97, 51, 101, 50, 53, 55, 49, 55, 56, 53, 48, 99, 50, 54, 99, 57, 99, 100, 48, 100, 56, 57, 100] } := by
  apply ByteArray.ext
  apply Array.toList_inj.1
  rw [textB, bytesB_toList]
  unfold letter hexc
  decide +kernel
theorem text_nil : textB 1245845410931227995499360226027473197403882391305 = { data := #[100, 97, 51, 57, 97, 51, 101, 101, 53, 101, 54, 98, 52, 98, 48, 100, 51, 50, 53, 53, 98, 102, 101, 102, 57, 53, 54, 48, 49, 56, 57, 48, 97, 102, 100, 56, 48, 55, 48, 57] } := by
  apply ByteArray.ext
  apply Array.toList_inj.1
  rw [textB, bytesB_toList]
  unfold letter hexc
  decide +kernel
end Go.Proofs.Ytdlfgoiakkkilaa
