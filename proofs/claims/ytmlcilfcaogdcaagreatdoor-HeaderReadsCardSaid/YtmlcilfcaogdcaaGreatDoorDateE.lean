/- Contracts of parts, number. Its conditions: none. -/
import Derived.Test.YtmlcilfcaogdcaaGreatDoorDateD
import Derived.Test.YtmlcilfcaogdcaaGreatDoorOctA
import Derived.Test.YtmlcilfcaogdcaaGreatDoorShelf
set_option linter.unusedVariables false
set_option linter.unusedSimpArgs false
set_option maxRecDepth 20000
namespace Go.Pk
def partsP (n : Int) : Prop := n = 9 ∨ (32 ≤ n ∧ n ≤ 47) ∨ (59 ≤ n ∧ n ≤ 64) ∨ (91 ≤ n ∧ n ≤ 96) ∨ (123 ≤ n ∧ n ≤ 126)
instance (n : Int) : Decidable (partsP n) := by unfold partsP; infer_instance
end Go.Pk
namespace Go.Proofs.YtmlcilfcaogdcaaGreatDoor
open Go.Pk
open Go.RowKit (Below)

theorem date_parts_ok (n : Int) (w : World) : Calls Tryz.prog f_date_parts #[.int .u8 n] w (Ret fun v w' => v = .bool (decide (partsP n)) ∧ w' = w) := by
  apply run_date_parts
  unfold vc_date_parts
  repeat' (refine BCase.of (fun h => ?_) (fun h => ?_))
  all_goals
    refine ⟨?_, rfl⟩
    congr 1
    rw [Bool.eq_iff_iff]
    simp only [decide_eq_true_eq]
    simp only [partsP, beq_iff_eq, beq_eq_false_iff_ne, ge_iff_le, decide_eq_true_eq, decide_eq_false_iff_not, true_iff, false_iff, iff_true, reduceCtorEq, Bool.false_eq_true] at *
    omega
theorem ref07_parts_ok (n : Int) (w : World) : Calls Tryz.prog f_ref07_parts #[.int .u8 n] w (Ret fun v w' => v = .bool (decide (partsP n)) ∧ w' = w) := by
  apply run_ref07_parts
  unfold vc_ref07_parts
  repeat' (refine BCase.of (fun h => ?_) (fun h => ?_))
  all_goals
    refine ⟨?_, rfl⟩
    congr 1
    rw [Bool.eq_iff_iff]
    simp only [decide_eq_true_eq]
    simp only [partsP, beq_iff_eq, beq_eq_false_iff_ne, ge_iff_le, decide_eq_true_eq, decide_eq_false_iff_not, true_iff, false_iff, iff_true, reduceCtorEq, Bool.false_eq_true] at *
    omega
end Go.Proofs.YtmlcilfcaogdcaaGreatDoor
