/- Contracts of the laws of dates: alive, DateDays, DateCookies, DateTells, DateNext. Its conditions: none. -/
import Derived.Test.YtmlcilfcaogdcaaGreatDoorDateU
set_option linter.unusedVariables false
set_option linter.unusedSimpArgs false
set_option maxRecDepth 20000
namespace Go.Pk
theorem next_day {y m d : Int} (h : isDate y m d) : (isDate y m (d + 1) ∧ daysOf y m (d + 1) = daysOf y m d + 1) ∨ (isDate y (m + 1) 1 ∧ daysOf y (m + 1) 1 = daysOf y m d + 1 ∧ 28 ≤ d) ∨
    (isDate (y + 1) 1 1 ∧ daysOf (y + 1) 1 1 = daysOf y m d + 1 ∧ m = 12 ∧ d = 31) ∨ (y = 9999 ∧ m = 12 ∧ d = 31) := by
  have hh := h
  obtain ⟨h1, h2, h3, h4, h5, h6⟩ := h
  by_cases c1 : d < lenM y m
  · exact .inl ⟨⟨h1, h2, h3, h4, by omega, by omega⟩, by unfold daysOf; omega⟩
  have hd : d = lenM y m := by omega
  have hl := lenM_le y m
  have hs := cM_succ (y := y) h3 h4
  by_cases c2 : m < 12
  · right; left
    have hl2 := lenM_le y (m + 1)
    exact ⟨⟨h1, h2, by omega, by omega, by omega, by omega⟩, by unfold daysOf; omega, by omega⟩
  have hm : m = 12 := by omega
  subst hm
  have hd31 : d = 31 := by rw [hd]; rfl
  right; right
  by_cases c3 : y < 9999
  · left
    have e1 := dY_succ (y := y) (by omega)
    have e2 := cM_end y
    have e3 : cM (y + 1) 1 = 0 := rfl
    have hl3 := lenM_le (y + 1) 1
    exact ⟨⟨by omega, by omega, by omega, by omega, by omega, by omega⟩, by unfold daysOf; rw [show (12 : Int) + 1 = 13 from rfl] at hs; omega, rfl, hd31⟩
  · right; exact ⟨by omega, rfl, hd31⟩
end Go.Pk
namespace Go.Proofs.YtmlcilfcaogdcaaGreatDoor
open Go.Pk
open Go.RowKit (Below)
abbrev Says (w : World) (v : Value) (w' : World) : Prop := v = .bool true ∧ Below w.heap.size w w'
theorem civV_cases (n : Int) : ∃ (y m d : Int) (b : Bool), civV n = .tuple #[.int .i64 y, .int .i64 m, .int .i64 d, .bool b] ∧ (b = true → isDate y m d ∧ daysOf y m d = n) ∧ (b = false → n < -134774 ∨ 2932896 < n) := by
  by_cases hr : n < -134774 ∨ 2932896 < n
  · exact ⟨_, _, _, _, civV_none hr, (fun e => by cases e), fun _ => hr⟩
  · obtain ⟨y, m, d, hd, he⟩ := civ_ex (n := n) (by omega) (by omega)
    exact ⟨y, m, d, true, by rw [← he]; exact civV_of hd, fun _ => ⟨hd, he⟩, (fun e => by cases e)⟩
theorem cookV_cases (f : Fnd) : ∃ (n : Int) (b : Bool), cookV f = .tuple #[.int .i64 n, .bool b] := by
  unfold cookV; split <;> exact ⟨_, _, rfl⟩
end Go.Proofs.YtmlcilfcaogdcaaGreatDoor
