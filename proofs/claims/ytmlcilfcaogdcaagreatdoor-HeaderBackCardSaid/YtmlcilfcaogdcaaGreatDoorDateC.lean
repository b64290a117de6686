/- Contract of the document's Civil. Its conditions: none. -/
import Derived.Test.YtmlcilfcaogdcaaGreatDoorDateB
set_option linter.unusedVariables false
set_option linter.unusedSimpArgs false
set_option maxRecDepth 20000
namespace Go.Pk
open Classical in
/-- the date of a day, as the four results -/
noncomputable def civV (n : Int) : Value := if h : ∃ p : Int × Int × Int, isDate p.1 p.2.1 p.2.2 ∧ daysOf p.1 p.2.1 p.2.2 = n then
  .tuple #[.int .i64 (Classical.choose h).1, .int .i64 (Classical.choose h).2.1, .int .i64 (Classical.choose h).2.2, .bool true] else .tuple #[.int .i64 0, .int .i64 0, .int .i64 0, .bool false]
theorem civV_of {y m d : Int} (h : isDate y m d) : civV (daysOf y m d) = .tuple #[.int .i64 y, .int .i64 m, .int .i64 d, .bool true] := by
  have hex : ∃ p : Int × Int × Int, isDate p.1 p.2.1 p.2.2 ∧ daysOf p.1 p.2.1 p.2.2 = daysOf y m d := ⟨(y, m, d), h, rfl⟩
  unfold civV
  rw [dif_pos hex]
  obtain ⟨h1, h2⟩ := Classical.choose_spec hex
  obtain ⟨e1, e2, e3⟩ := day_uniq h1 h h2
  rw [e1, e2, e3]
theorem day_range {y m d : Int} (h : isDate y m d) : -134774 ≤ daysOf y m d ∧ daysOf y m d ≤ 2932896 := by
  have h1 := day_in h
  have h2 := dY_le (y := y) h.1 (by have := h.2.1; omega)
  have h3 := dY_le (y := y + 1) (by have := h.1; omega) (by have := h.2.1; omega)
  have h4 := dY_mono (a := y + 1) (b := 10000) (by have := h.1; omega) (by have := h.2.1; omega)
  omega
theorem civV_none {n : Int} (h : n < -134774 ∨ 2932896 < n) : civV n = .tuple #[.int .i64 0, .int .i64 0, .int .i64 0, .bool false] := by
  unfold civV
  rw [dif_neg]
  rintro ⟨p, h1, h2⟩
  have := day_range h1
  omega
theorem low_day : isDate 1601 1 1 ∧ daysOf 1601 1 1 = -134774 := by decide
theorem high_day : isDate 9999 12 31 ∧ daysOf 9999 12 31 = 2932896 := by decide
end Go.Pk
namespace Go.Proofs.YtmlcilfcaogdcaaGreatDoor
open Go.Pk
open Go.RowKit (Below)

end Go.Proofs.YtmlcilfcaogdcaaGreatDoor
