/- Contract of the document's text of a moment. Its conditions: none. -/
import Derived.Test.YtmlcilfcaogdcaaGreatDoorDateT
set_option linter.unusedVariables false
set_option linter.unusedSimpArgs false
set_option maxRecDepth 20000
namespace Go.Proofs.YtmlcilfcaogdcaaGreatDoor
open Go.Pk
open Go.RowKit (Below)
theorem weekL_get {k : Int} (h0 : 0 ≤ k) (h1 : k < 7) : weekL[k.toNat]'(by show k.toNat < 7; omega) = weekN k := by
  unfold weekN; rw [List.getElem?_eq_getElem (by show k.toNat < 7; omega)]; rfl
theorem monL3_get {k : Int} (h0 : 1 ≤ k) (h1 : k ≤ 12) : monL3[(k - 1).toNat]'(by show (k - 1).toNat < 12; omega) = monN k := by
  unfold monN; rw [List.getElem?_eq_getElem (by show (k - 1).toNat < 12; omega)]; rfl
end Go.Proofs.YtmlcilfcaogdcaaGreatDoor
