/-
  The symbolic heap, continued: where a block stands in the list.
-/
import Derived.Test.YtdlfgoiakkkilaaMem4
namespace Go.Proofs.Ytdlfgoiakkkilaa
section
variable {p0 p1 p2 p3 p4 p5 p6 p7 p8 p9 p : Nat × Obj} {L : List (Nat × Obj)}
theorem at0 : (p :: L)[0]? = some p := rfl
theorem at1 : (p0 :: p :: L)[1]? = some p := rfl
theorem at2 : (p0 :: p1 :: p :: L)[2]? = some p := rfl
theorem at3 : (p0 :: p1 :: p2 :: p :: L)[3]? = some p := rfl
theorem at4 : (p0 :: p1 :: p2 :: p3 :: p :: L)[4]? = some p := rfl
theorem at5 : (p0 :: p1 :: p2 :: p3 :: p4 :: p :: L)[5]? = some p := rfl
theorem at6 : (p0 :: p1 :: p2 :: p3 :: p4 :: p5 :: p :: L)[6]? = some p := rfl
theorem at7 : (p0 :: p1 :: p2 :: p3 :: p4 :: p5 :: p6 :: p :: L)[7]? = some p := rfl
theorem at8 : (p0 :: p1 :: p2 :: p3 :: p4 :: p5 :: p6 :: p7 :: p :: L)[8]? = some p := rfl
theorem at9 : (p0 :: p1 :: p2 :: p3 :: p4 :: p5 :: p6 :: p7 :: p8 :: p :: L)[9]? = some p := rfl
end
end Go.Proofs.Ytdlfgoiakkkilaa
