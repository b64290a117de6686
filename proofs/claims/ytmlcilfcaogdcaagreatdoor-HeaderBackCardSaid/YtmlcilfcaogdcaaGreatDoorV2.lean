/- What the functions' bodies ask, by their names. Its conditions: none. -/
import Derived.Test.YtmlcilfcaogdcaaGreatDoorNames
set_option linter.unusedVariables false
set_option maxRecDepth 100000
namespace Go.Proofs.YtmlcilfcaogdcaaGreatDoor
open Go.Pk
open Go.RowKit (Below)
--  strconv.FormatInt
def vc_strconv_FormatInt (n0 : Int) (n1 : Int) (w : World) (K : Value → World → Prop) : Prop :=
  Calls Tryz.prog f_internal_strconv_FormatInt #[.int .i64 n0, .int .i64 n1] w fun e7 w7 => ∃ (s7 : List UInt8), e7 = .returned (.string (mkS s7)) ∧
  K (.string (mkS s7)) w7
theorem run_strconv_FormatInt (n0 : Int) (n1 : Int) {w : World} {K : Value → World → Prop} (h : vc_strconv_FormatInt n0 n1 w K) : Calls Tryz.prog f_strconv_FormatInt #[.int .i64 n0, .int .i64 n1] w (Ret K) :=
  calls_E (c := bodyOf Tryz.f47) (by kernel_rfl) Tryz.func47 (by kernel_rfl) [] [.int .i64 n0, .int .i64 n1] (of_decide_eq_true (by kernel_rfl)) (vc_strconv_FormatInt n0 n1 w K) (by kernel_rfl) h

end Go.Proofs.YtmlcilfcaogdcaaGreatDoor
